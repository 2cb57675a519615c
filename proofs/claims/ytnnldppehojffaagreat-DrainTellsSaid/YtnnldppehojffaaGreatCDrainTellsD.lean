/- Steps of the proof that the law of this claim answers true, part 4. No conditions. -/
import Derived.Test.YtnnldppehojffaaGreatCDrainTellsC
/- Trees of heaps, part 1. -/
namespace Go.Proofs.YtnnldppehojffaaGreat
open Go Go.Eng
variable {mb:Option Nat} {w:World} {M:Mem mb}
abbrev EncB:Enc Bt:=encB 347 381 383
theorem EncB.mono:EncB.Mono:=encB_mono
theorem b_key_n (hs:Sat M w):
  Dz 246 #[.agg #[.pointer none]] w (fun v w'=>v = .agg (elc Bt.nil.key).toArray∧Step Nope M w M w'):=by
 have hT:=hs.r
 refine Fe Tryz.func246 [.cell 2 29] rfl<|Ri fun Z=>Bm hs rfl fun b1 M1 w1 hs1 hb1 e1=>?_
 have:=hs1.size
 have hT:=hT.t hs1
 have:=hT.size
 refine Al (.agg #[(.int .i64 0),(.int .i64 0)]) hs1.sat rfl fun br w2 hs2 hor er=>?_
 have:=hs2.size
 have:=hor.1.lt
 refine Nx Z<|cw_seq fun _ hK2=>Ri fun Z=>Qf 0 rfl<|Q1 rfl (BC hs2 hb1 rfl)<|Qq rfl (qn rfl)<|Nx Z<|cw_true rfl<|Ri fun Z=>Qq rfl (q_build (zs:=[(.int .i64 0),(.int .i64 0)]) (places:=[(0,1),(1,1)]) (cs:=[_,_]) V V rfl rfl)<|St hs2.sat hor rfl fun w3 hs3 hor=>?_
 have:=hs3.size
 refine Nx Z<|cw_ret ?_
 have hT:=hT.t hs2 |>.o hs3
 exact ⟨_,(Rc 2 rfl (OD hor rfl) res_nil),rfl,hT.forget⟩
theorem b_key_c {x:El} {ts:List (RT Bt)} {q:Option Addr} (hs:Sat M w) (h:BRep 347 381 383 M (.node x ts) q):
  Dz 246 #[.agg #[.pointer q]] w (fun v w'=>v = .agg (elc (Bt.node x ts).key).toArray∧Step Nope M w M w'):=by
 have hT:=hs.r
 obtain ⟨b,qs,rfl,hb,_⟩:=brep_node.1 h
 refine Fe Tryz.func246 [.cell 2 29] rfl<|Ri fun Z=>Bm hs rfl fun b1 M1 w1 hs1 hb1 e1=>?_
 have:=hs1.size
 have hT:=hT.t hs1
 have:=hT.size
 refine Al (.agg #[(.int .i64 0),(.int .i64 0)]) hs1.sat rfl fun br w2 hs2 hor er=>?_
 have:=hs2.size
 have:=hor.1.lt
 refine Nx Z<|cw_seq fun _ hK2=>Ri fun Z=>Qf 0 rfl<|Q1 rfl (BC hs2 hb1 rfl)<|Qq rfl (qn rfl)<|Nx Z<|cw_false rfl<|cw_skip<|hK2 _ _<|Ri fun Z=>Qf 0 rfl<|Q1 rfl (BC hs2 hb1 rfl)<|Qq rfl (q_nilp rfl)<|Qf 0 rfl ?_
 have hb:=hs1.le _ _ hb
 refine Qc 2 rfl (BD hs2 hb rfl)<|St hs2.sat hor rfl fun w3 hs3 hor=>?_
 have:=hs3.size
 refine Nx Z<|cw_ret ?_
 have hT:=hT.t hs2 |>.o hs3
 exact ⟨_,(Rc 2 rfl (OD hor rfl) res_nil),rfl,hT.forget⟩
theorem b_key {t:Bt} {q:Option Addr} (hs:Sat M w) (h:EncB M t [.pointer q]):Dz 246 #[.agg #[.pointer q]] w (fun v w'=>v = .agg (elc t.key).toArray∧Step Nope M w M w'):=by
 obtain ⟨q',hq,h⟩:=encB_iff.1 h
 cases hq
 cases t with
 | nil=>obtain rfl:=brep_nil.1 h; exact b_key_n hs
 | node x ts=>exact b_key_c hs h
theorem th_rank_n {x:Bt} {bs:List Bt} {ks:List (RT Bt)} {q:Option Addr} (hs:Sat M w) (h:TRep 383 1 EncB M (.node x bs ks) q):
  Dz 261 #[.pointer q] w (fun v w'=>v = .int .i64 (ks.length:Int)∧Step Nope M w M w'):=by
 have hT:=hs.r
 obtain ⟨b,xc,bv,bcs,kv,ka,rfl,hb,hx,hxl,hbs,hbl,hks,hkl⟩:=trep_node.1 h
 obtain ⟨qx,rfl,_⟩:=encB_iff.1 hx
 obtain ⟨ba,bk,rfl,_,_⟩:=hbs.slice
 obtain ⟨kp,kk,rfl,_,_⟩:=hks.slice
 refine Fe Tryz.func261 [.tmp 2] rfl<|Ri fun Z=>Na rfl Z<|cw_seq fun _ hK2=>Ri fun Z=>Qm rfl<|Qq rfl (qn rfl)<|Nx Z<|cw_false rfl<|cw_skip<|hK2 _ _<|Ri fun Z=>Qm rfl<|Qq rfl (q_nilp rfl)<|Qf 0 rfl<|Q1 rfl (BlkR.cell (hs _ _ _ hb) rfl)<|Na rfl Z<|cw_ret ?_
 exact ⟨_,Rt rfl,rfl,hT.forget⟩
theorem th_rank {t:RT Bt} {q:Option Addr} (hs:Sat M w) (h:TRep 383 1 EncB M t q):Dz 261 #[.pointer q] w (fun v w'=>v = .int .i64 (t.rank:Nat)∧Step Nope M w M w'):=by
 cases t with
 | node x bs ks=>exact th_rank_n hs h
theorem th_root_n {x:Bt} {bs:List Bt} {ks:List (RT Bt)} {q:Option Addr} (hs:Sat M w) (h:TRep 383 1 EncB M (.node x bs ks) q):
  Dz 268 #[.pointer q] w (fun v w'=>∃ qx,v = .tuple #[.agg #[.pointer qx], .bool true]∧Step Nope M w M w'∧EncB M x [.pointer qx]):=by
 have hT:=hs.r
 obtain ⟨b,xc,bv,bcs,kv,ka,rfl,hb,hx,hxl,hbs,hbl,hks,hkl⟩:=trep_node.1 h
 obtain ⟨qx,rfl,_⟩:=encB_iff.1 hx
 obtain ⟨ba,bk,rfl,_,_⟩:=hbs.slice
 obtain ⟨kp,kk,rfl,_,_⟩:=hks.slice
 refine Fe Tryz.func268 [.cell 2 172, .tmp 3] rfl<|Ri fun Z=>?_
 have:=hT.size
 refine Al (.agg #[(.pointer none)]) hs rfl fun br w1 hs1 hor er=>?_
 have:=hs1.size
 have:=hor.1.lt
 refine Na rfl Z<|cw_seq fun _ hK2=>Ri fun Z=>Qm rfl<|Qq rfl (qn rfl)<|Nx Z<|cw_false rfl<|cw_skip<|hK2 _ _<|Ri fun Z=>Qm rfl<|Qq rfl (q_nilp rfl)<|Qf 1 rfl<|Qc 1 rfl (BD hs1 hb rfl)<|St hs1.sat hor rfl fun w2 hs2 hor=>?_
 have:=hs2.size
 refine Na rfl Z<|cw_ret ?_
 have hT:=hT.t hs1 |>.o hs2
 exact ⟨_,(Rc 1 rfl (OD hor rfl) (Rt rfl)),qx,rfl,hT.forget,hx⟩
theorem th_root {t:RT Bt} {q:Option Addr} (hs:Sat M w) (h:TRep 383 1 EncB M t q):Dz 268 #[.pointer q] w (fun v w'=>∃ qx,v = .tuple #[.agg #[.pointer qx], .bool true]∧Step Nope M w M w'∧EncB M t.root [.pointer qx]):=by
 cases t with
 | node x bs ks=>exact th_root_n hs h
theorem th_made {x:Bt} {qx:Option Addr} {bs:List Bt} {ks:List (RT Bt)} {ba kp:Option Addr} {bk kk:Nat} {bcs:List Value} {ka:List (Option Addr)} {s0:Int} (hs:Sat M w) (hx:EncB M x [.pointer qx]) (hbs:RdM M 1 (.slice ba bs.length bk) bs.length bcs) (hbl:EncL EncB 1 M bs bcs) (hks:RdM M 1 (.slice kp ks.length kk) ks.length (ptrs ka)) (hkl:TReps 383 1 EncB M ks ka) (hz:1+bs.length+RT.sizes ks≤1000000000):
  Dz 280 #[mval mb, .agg (.int .i64 (ks.length:Int)::([.pointer qx]++[.slice ba bs.length bk, .slice kp ks.length kk, .int .i64 s0])).toArray] w (fun v w'=>∃ q M',v = .pointer q∧StepC Nope 1 M w M' w'∧TRep 383 1 EncB M' (.node x bs ks) q):=by
 have hT:=hs.r
 have hzk:=fun i=>RT.sizes_take_le ks i
 refine Fe Tryz.func280 [.tmp 4] rfl<|Ri fun Z=>?_
 have:=hT.size
 refine Bo hs rfl fun bt w1 hs1 hot et=>?_
 have:=hs1.size
 have hlt:=hot.1.lt
 refine Nar rfl Z fun Z=>Qm rfl<|Ca rfl ((m_made hs1.sat).mono ?_)
 rintro _ w2 hs2
 have:=hs2.size
 refine Nr Z fun Z=>Qf 2 rfl ?_
 have hot:=hot.t hs2
 refine Q1 rfl (OC hot rfl)<|Qq rfl (ql rfl)<|Qq rfl (qA rfl)<|Qf 4 rfl<|St hs2.sat hot rfl fun w3 hs3 hot=>?_
 have:=hs3.size
 refine Nx Z<|cw_seq fun _ hK4=>Ri fun Z=>Qf 3 rfl<|Q1 rfl (OC hot rfl)<|Qq rfl (ql rfl)<|Qm rfl<|Nx Z<|cw_block ?_
 have hT:=hT.t hs1 |>.t hs2 |>.o hs3
 refine cw_loop (fun mm l w1=>∃ i:Nat,mm=ks.length-i∧i≤ks.length∧l=[(0,mval mb),(3, .pointer (some ⟨bt,0,none⟩)),(15, .slice kp ks.length kk),(16, .int .i64 (ks.length:Nat)),(17, .int .i64 i)]∧StepC Nope 1 M w (M.tick 1) w1∧Own w1 (M.tick 1) bt (.int .i64 (ks.length:Int)::([.pointer qx]++[.slice ba bs.length bk, .slice kp ks.length kk, .int .i64 ((1+bs.length+RT.sizes (ks.take i):Nat):Int)])) 383) (ks.length) [(0,mval mb),(3, .pointer (some ⟨bt,0,none⟩)),(15, .slice kp ks.length kk),(16, .int .i64 (ks.length:Nat)),(17, .int .i64 (0:Nat))] (.cons rfl (.cons rfl (.cons rfl (.cons rfl (.cons rfl (.nil _)))))) ?_ ?_
 ·refine ⟨0,rfl,Nat.zero_le _,rfl,hT,?_⟩
  exact hot
 have hbtw:w.heap.size≤bt:=by omega
 clear hT hot
 rintro mm l w1 ⟨i,rfl,hi,rfl,hT,hot⟩
 refine Ri fun Z=>Qq rfl (q_lt rfl rfl)<|Nx Z<|cw_seq fun _ hK7=>cw_cond rfl (fun hc0=>?_) (fun hc0=>?_)
 ·have hlt:i<ks.length:=by have:=of_decide_eq_true hc0; omega
  obtain ⟨k,hk⟩:∃ k,ks[i]? = some k:=⟨ks[i],by simp [hlt]⟩
  obtain ⟨kq,hkq,hkr⟩:=hkl.get hk
  obtain ⟨kb,ko,hkp⟩:=hks.there O
  subst hkp
  obtain ⟨c,rfl,hksz⟩:=trep_size hkr
  have hks1:=RT.sizes_take hk
  have hks2:=RT.sizes_take_le ks (i+1)
  have hksl:=RT.sizes_length ks
  refine cw_skip<|hK7 _ _<|cw_seq fun _ hK8=>cw_block<|Ri fun Z=>Qq rfl (qi 360 1 rfl)<|Q1 rfl (hks.cell (M:=M.tick 1) hT.sat (u:= .pointer (some ⟨c,0,none⟩)) (by rw [show (i:Int).toNat*1=i from by omega]; simp [ptrs,hkq]))<|Na rfl Z<|cw_drawn V V V rfl rfl fun K10 hK10=>?_
  have hs4:=Step.drew hT.sat
  have:=hs4.size
  refine Gf 0 1 4 rfl ?_
  have hot:=hot.t hs4
  refine G1 1 3 rfl (OC hot rfl)<|Gm 2 7 rfl<|Gq 3 15 rfl (fun _=>q_nilp rfl)<|Gf 4 31 4 rfl ?_
  have hT:=hT.t hs4
  refine G1 5 63 rfl (cellM_cell hT.sat hksz)<|Gq 6 127 rfl (fun _=>qA rfl)<|Gf 7 255 4 rfl<|G0 8 511 rfl (Ks [T,T]) (h_store hs4.sat hot rfl rfl rfl V rfl rfl rfl fun w5 hs5 hn5=>?_)
  clear hot; have hot:=hn5; clear hn5
  have:=hs5.size
  refine ⟨trivial,?_⟩
  refine Dd V (hK10 _ _ ?_)
  refine hK8 _ _<|cw_region fun _ Z=>Qq rfl (qA rfl)<|Qm rfl<|as_nil (Z _ _ ?_)
  have hT:=hT.o hs5
  refine ⟨_,_,?_,(.cons rfl (.cons rfl (.cons rfl (.cons rfl (.cons rfl (.nil _)))))),i+1,rfl,by omega,rfl,hT,?_⟩
  ·omega
  ·rw [show ((1+bs.length+RT.sizes (ks.take (i+1)):Nat):Int)=((1+bs.length+RT.sizes (ks.take i):Nat):Int)+(k.size:Int) by omega]; exact hot
 ·have hge:i=ks.length:=by have:=of_decide_eq_false hc0; omega
  refine cw_exit<|hK4 _ _<|Ri fun Z=>Na rfl Z<|cw_ret ?_
  subst hge
  rw [List.take_length] at hot
  obtain ⟨hbx,hTx⟩:=own_freeze hT hot hbtw
  exact ⟨_,Rt rfl,_,_,rfl,hTx,trep_node.2 ⟨_,_,_,_,_,_,rfl,hbx,(EncB.mono _ _ _ _ hTx.le hx),rfl,hbs.mono hTx.le,hbl.mono EncB.mono hTx.le,hks.mono hTx.le,hkl.mono' EncB.mono hTx.le⟩⟩
theorem th_aheadk {a:Option Addr} {l:Value} {n:Nat} {ka:List (Option Addr)} (hs:Sat M w) (hl:RdM M 1 l n (ptrs ka)) (hz:n≤1000000000):
  Dz 288 #[.pointer a,l] w (fun v w'=>∃ sa sc M',v = .slice sa (n+1) sc∧Step Nope M w M' w'∧RdM M' 1 (.slice sa (n+1) sc) (n+1) (ptrs (a::ka))):=by
 have hT:=hs.r
 obtain ⟨la,lc,rfl,_,_⟩:=hl.slice
 refine Fe Tryz.func288 [.tmp 4] rfl<|Ri fun Z=>Nar rfl Z fun Z=>Qm rfl<|as_h rfl (h_buildO (e:=360) (size:=1) (zs:=[(.pointer none)]) (cs:=[_]) V V V rfl hs rfl rfl fun bB w1 hs1 hoB eB=>?_)
 have:=hs1.size
 refine Qm rfl ?_
 have hbb:=Own.buf hoB (n:=1) (size:=1) rfl (by decide)
 refine as_h rfl (h_append (e:=360) (size:=1) (bytes:=8) V hs1.sat hbb (hl.rd hs1.sat) rfl rfl (ptrs_one _) O rfl fun sv w2 hs2 hbu hor=>?_)
 have hT:=hT.t hs1
 have:=hT.size
 have:=hs2.size
 have hT:=hT.trans hs2 (fun k hk h=>by have h2:bB=k:=Option.some.inj h; omega)
 obtain ⟨M2,hT2,hle,hrd,_⟩:=hT.freezeB hbu (fun g hg=>by
  rcases hor with h | h
  ·rw [h] at hg; have h2:bB=g:=Option.some.inj hg; omega
  ·rw [h] at hg; have h2:=Option.some.inj hg; omega)
 obtain ⟨sa,sc,rfl,_,_⟩:=hrd.slice
 refine Na rfl Z<|cw_ret ?_
 rw [show 1+n=n+1 by omega] at hrd
 exact ⟨_,Rt rfl,_,_,_,congrArg (fun k=>Value.slice sa k sc) (Nat.add_comm 1 n),hT2,hrd⟩
theorem th_aheadx {qx:Option Addr} {l:Value} {n:Nat} {bcs:List Value} (hs:Sat M w) (hl:RdM M 1 l n bcs) (h1:∀ x ∈ bcs,x.oneCell'=true) (hz:n≤1000000000):
  Dz 281 #[.agg #[.pointer qx],l] w (fun v w'=>∃ sa sc M',v = .slice sa (n+1) sc∧Step Nope M w M' w'∧RdM M' 1 (.slice sa (n+1) sc) (n+1) ([.pointer qx]++bcs)):=by
 have hT:=hs.r
 obtain ⟨la,lc,rfl,_,_⟩:=hl.slice
 refine Fe Tryz.func281 [.tmp 4] rfl<|Ri fun Z=>Bm hs rfl fun b1 M1 w1 hs1 hb1 e1=>?_
 have:=hs1.size
 refine Nar rfl Z fun Z=>Qc 1 rfl (BD hs1 hb1 rfl)<|as_h rfl (h_buildO (e:=172) (size:=1) (zs:=[(.pointer none)]) (cs:=[_]) V V V rfl hs1.sat rfl rfl fun bB w2 hs2 hoB eB=>?_)
 have:=hs2.size
 refine Qm rfl ?_
 have hbb:=Own.buf hoB (n:=1) (size:=1) rfl (by decide)
 have hl:=hl.mono hs1.le
 refine as_h rfl (h_append (e:=172) (size:=1) (bytes:=8) V hs2.sat hbb (hl.rd hs2.sat) rfl rfl h1 O rfl fun sv w3 hs3 hbu hor=>?_)
 have hT:=hT.t hs1 |>.t hs2
 have:=hT.size
 have:=hs3.size
 have hT:=hT.trans hs3 (fun k hk h=>by have h2:bB=k:=Option.some.inj h; omega)
 obtain ⟨M2,hT2,hle,hrd,_⟩:=hT.freezeB hbu (fun g hg=>by
  rcases hor with h | h
  ·rw [h] at hg; have h2:bB=g:=Option.some.inj hg; omega
  ·rw [h] at hg; have h2:=Option.some.inj hg; omega)
 obtain ⟨sa,sc,rfl,_,_⟩:=hrd.slice
 refine Na rfl Z<|cw_ret ?_
 rw [show 1+n=n+1 by omega] at hrd
 exact ⟨_,Rt rfl,_,_,_,congrArg (fun k=>Value.slice sa k sc) (Nat.add_comm 1 n),hT2,hrd⟩
theorem th_leaf {x:Bt} {qx:Option Addr} (hs:Sat M w) (hx:EncB M x [.pointer qx]):
  Dz 265 #[mval mb, .agg #[.pointer qx]] w (fun v w'=>∃ q M',v = .pointer q∧StepC Nope (1) M w M' w'∧TRep 383 1 EncB M' (RT.leaf x) q):=by
 have hT:=hs.r
 refine Fe Tryz.func265 [.tmp 4] rfl<|Ri fun Z=>Bm hs rfl fun b1 M1 w1 hs1 hb1 e1=>?_
 have:=hs1.size
 refine Nar rfl Z fun Z=>Qm rfl<|Qc 1 rfl (BD hs1 hb1 rfl)<|Qq rfl (q_build (zs:=[(.int .i64 0),(.pointer none),(.slice none 0 0),(.slice none 0 0),(.int .i64 0)]) (places:=[(0,1),(1,1),(2,1),(3,1),(4,1)]) (cs:=[_,_,_,_,_]) V V rfl rfl) ?_
 have hx:=EncB.mono _ _ _ _ hs1.le hx
 refine Ca rfl ((th_made (x:=x) (qx:=qx) (bs:=[]) (ks:=[]) (ba:=none) (kp:=none) (bk:=0) (kk:=0) (bcs:=[]) (ka:=[]) hs1.sat hx (rdm_nil _ _) rfl (rdm_nil _ _) (treps_nil.2 rfl) (by simp [RT.sizes])).mono ?_)
 rintro _ w2 ⟨qn,Mn,rfl,hs2,hn⟩
 have:=hs2.size
 refine Na rfl Z<|cw_ret ?_
 have hT:=hT.t hs1 |>.t hs2
 exact ⟨_,Rt rfl,_,_,rfl,hT,hn⟩
theorem th_link_n {x y:Bt} {bs ls:List Bt} {ks ms:List (RT Bt)} {q q2:Option Addr} (hs:Sat M w) (h:TRep 383 1 EncB M (.node x bs ks) q) (h2:TRep 383 1 EncB M (.node y ls ms) q2) (hz:(RT.node x bs ks).size+(RT.node y ls ms).size≤1000000000):
  Dz 279 #[mval mb, .pointer q, .pointer q2] w (fun v w'=>∃ q M',v = .pointer q∧StepC Nope (2) M w M' w'∧TRep 383 1 EncB M' (RT.link ltB (.node x bs ks) (.node y ls ms)) q):=by
 have hT:=hs.r
 obtain ⟨b,xc,bv,bcs,kv,ka,rfl,hb,hx,hxl,hbs,hbl,hks,hkl⟩:=trep_node.1 h
 obtain ⟨qx,rfl,_⟩:=encB_iff.1 hx
 obtain ⟨ba,bk,rfl,_,_⟩:=hbs.slice
 obtain ⟨kp,kk,rfl,_,_⟩:=hks.slice
 obtain ⟨b2,xc2,bv2,bcs2,kv2,ka2,rfl,hb2,hx2,hxl2,hbs2,hbl2,hks2,hkl2⟩:=trep_node.1 h2
 obtain ⟨qx2,rfl,_⟩:=encB_iff.1 hx2
 obtain ⟨ba2,bk2,rfl,_,_⟩:=hbs2.slice
 obtain ⟨kp2,kk2,rfl,_,_⟩:=hks2.slice
 simp only [RT.size] at hz
 have hl1:=RT.sizes_length ks
 have hl2:=RT.sizes_length ms
 refine Fe Tryz.func279 [.tmp 6] rfl<|Ri fun Z=>Na rfl Z<|cw_seq fun _ hK2=>cw_block<|Ri fun Z=>Qm rfl<|Qq rfl (qn rfl)<|Na rfl Z<|cw_false rfl<|Ri fun Z=>Qm rfl<|Qq rfl (qn rfl)<|Na rfl Z<|cw_false rfl<|cw_skip<|hK2 _ _<|cw_seq fun _ hK5=>Rv fun Z=>?_
 have hs1:=Step.drew hs
 have:=hs1.size
 refine Gm 0 1 rfl<|Gm 1 3 rfl<|Gq 2 7 rfl (fun _=>q_nilp rfl)<|Gf 3 15 1 rfl<|Gc 4 31 1 rfl (BD hs1 hb2 rfl)<|Gq 5 63 rfl (fun _=>qf rfl)<|Gm 7 191 rfl<|Gq 8 447 rfl (fun _=>q_nilp rfl)<|Gf 9 959 1 rfl<|Gc 10 1983 1 rfl (BD hs1 hb rfl)<|Gq 11 4031 rfl (fun _=>qf rfl)<|Gh 6 4095 rfl (Ks [F,F]) (h_invoke (f:=246) (r:= .agg #[.pointer qx2]) V rfl rfl V ?_)
 refine (b_key (t:=y) hs1.sat hx2).mono ?_
 rintro _ w2 ⟨rfl,hs2⟩
 have:=hs2.size
 have hT:=hT.t hs1 |>.t hs2
 refine ⟨(by repeat' first | exact trivial | exact BD hs2 hb rfl | exact BD hs2 hb2 rfl | refine And.intro ?_ ?_),?_⟩
 refine Gh 12 8191 rfl (Ks [F,F]) (h_invoke (f:=246) (r:= .agg #[.pointer qx]) V rfl rfl V ?_)
 refine (b_key (t:=x) hs2.sat hx).mono ?_
 rintro _ w3 ⟨rfl,hs3⟩
 have:=hs3.size
 have hT:=hT.t hs3
 refine ⟨(by repeat' first | exact trivial | exact BD hs3 hb rfl | exact BD hs3 hb2 rfl | refine And.intro ?_ ?_),?_⟩
 refine Gh 13 16383 rfl (Ks [F,F]) (h_call V rfl ?_)
 refine (m_less (a:=y.key) (b:=x.key) hs3.sat).mono ?_
 rintro _ w4 ⟨rfl,hs4⟩
 have hkl:=hkl.mono' EncB.mono hs4.le
 have hkl2:=hkl2.mono' EncB.mono hs4.le
 have h:=h.mono' EncB.mono hs4.le
 have h2:=h2.mono' EncB.mono hs4.le
 have:=hs4.size
 have hb:=hs4.le _ _ hb
 have hbs:=hbs.mono hs4.le
 have hbl:=hbl.mono EncB.mono hs4.le
 have hks:=hks.mono hs4.le
 have hx:=EncB.mono _ _ _ _ hs4.le hx
 have hb2:=hs4.le _ _ hb2
 have hbs2:=hbs2.mono hs4.le
 have hbl2:=hbl2.mono EncB.mono hs4.le
 have hks2:=hks2.mono hs4.le
 have hx2:=EncB.mono _ _ _ _ hs4.le hx2
 have hT:=hT.t hs4
 refine ⟨(by repeat' first | exact trivial | exact BD hs4 hb rfl | exact BD hs4 hb2 rfl | refine And.intro ?_ ?_),?_⟩
 refine Dx Z<|cw_cond rfl (fun hc2=>?_) (fun hc2=>?_)
 ·skip
  refine cw_region fun _ Z=>Qm rfl<|Qm rfl<|Qa rfl<|Qa rfl<|as_nil (Z _ _ ?_)
  refine hK5 _ _<|Rv fun Z=>?_
  have hs5:=Step.drew hs4.sat
  have:=hs5.size
  refine Gm 0 1 rfl<|Gm 1 3 rfl<|Gq 2 7 rfl (fun _=>q_nilp rfl)<|Gf 3 15 0 rfl<|G1 4 31 rfl (BC hs5 hb2 rfl)<|Gq 5 63 rfl (fun _=>qA rfl)<|Gm 6 127 rfl<|Gq 7 255 rfl (fun _=>q_nilp rfl)<|Gf 8 511 1 rfl<|Gc 9 1023 1 rfl (BD hs5 hb2 rfl)<|Gm 10 2047 rfl<|Gq 11 4095 rfl (fun _=>q_nilp rfl)<|Gf 12 8191 2 rfl<|G1 13 16383 rfl (BC hs5 hb2 rfl)<|Gm 14 32767 rfl<|Gm 15 65535 rfl<|Gq 16 131071 rfl (fun _=>q_nilp rfl)<|Gf 17 262143 3 rfl<|G1 18 524287 rfl (BC hs5 hb2 rfl)<|Gh 19 1048575 rfl (Ks [T,F,F,F]) (h_call V rfl ?_)
  refine (th_aheadk hs5.sat hks2 O).mono ?_
  rintro _ w6 ⟨sa,sc,Mn,rfl,hs6,hn⟩
  have hkl:=hkl.mono' EncB.mono hs6.le
  have hkl2:=hkl2.mono' EncB.mono hs6.le
  have h:=h.mono' EncB.mono hs6.le
  have h2:=h2.mono' EncB.mono hs6.le
  have:=hs6.size
  have hT:=hT.t hs5 |>.t hs6
  have hb:=hs6.le _ _ hb
  have hbs:=hbs.mono hs6.le
  have hbl:=hbl.mono EncB.mono hs6.le
  have hks:=hks.mono hs6.le
  have hx:=EncB.mono _ _ _ _ hs6.le hx
  have hb2:=hs6.le _ _ hb2
  have hbs2:=hbs2.mono hs6.le
  have hbl2:=hbl2.mono EncB.mono hs6.le
  have hx2:=EncB.mono _ _ _ _ hs6.le hx2
  refine ⟨(by repeat' first | exact trivial | exact BC hs6 hb2 rfl | exact BD hs6 hb2 rfl | refine And.intro ?_ ?_),?_⟩
  refine Gq 20 2097151 rfl (fun _=>(q_build (zs:=[(.int .i64 0),(.pointer none),(.slice none 0 0),(.slice none 0 0),(.int .i64 0)]) (places:=[(0,1),(1,1),(2,1),(3,1),(4,1)]) (cs:=[_,_,_,_,_]) V V rfl rfl))<|Gh 21 4194303 rfl (Ks [F,F,F]) (h_call V rfl ?_)
  refine (th_made (x:=y) (qx:=qx2) (bs:=ls) (ks:=(.node x bs ks)::ms) hs6.sat hx2 hbs2 hbl2 hn (treps_cons.2 ⟨_,_,rfl,h,hkl2⟩) (by simp only [RT.sizes,RT.size]; omega)).mono ?_
  rintro _ w7 ⟨qn,Mn2,rfl,hs7,hm⟩
  have hkl:=hkl.mono' EncB.mono hs7.le
  have h:=h.mono' EncB.mono hs7.le
  have h2:=h2.mono' EncB.mono hs7.le
  have:=hs7.size
  have hb:=hs7.le _ _ hb
  have hbs:=hbs.mono hs7.le
  have hbl:=hbl.mono EncB.mono hs7.le
  have hks:=hks.mono hs7.le
  have hx:=EncB.mono _ _ _ _ hs7.le hx
  have hb2:=hs7.le _ _ hb2
  have hn:=hn.mono hs7.le
  have hT:=hT.t hs7
  refine ⟨(by repeat' first | exact trivial | exact BC hs7 hb2 rfl | exact BD hs7 hb2 rfl | refine And.intro ?_ ?_),?_⟩
  refine Ga 22 8388607 rfl<|Dx Z<|cw_ret<|⟨_,Rt rfl,_,_,rfl,hT,?_⟩
  rw [RT.link,if_pos (show ltB (RT.node y ls ms).root (RT.node x bs ks).root=true from hc2)]
  exact hm
 ·skip
  refine cw_skip<|hK5 _ _<|Rv fun Z=>?_
  have hs8:=Step.drew hs4.sat
  have:=hs8.size
  refine Gm 0 1 rfl<|Gm 1 3 rfl<|Gq 2 7 rfl (fun _=>q_nilp rfl)<|Gf 3 15 0 rfl<|G1 4 31 rfl (BC hs8 hb rfl)<|Gq 5 63 rfl (fun _=>qA rfl)<|Gm 6 127 rfl<|Gq 7 255 rfl (fun _=>q_nilp rfl)<|Gf 8 511 1 rfl<|Gc 9 1023 1 rfl (BD hs8 hb rfl)<|Gm 10 2047 rfl<|Gq 11 4095 rfl (fun _=>q_nilp rfl)<|Gf 12 8191 2 rfl<|G1 13 16383 rfl (BC hs8 hb rfl)<|Gm 14 32767 rfl<|Gm 15 65535 rfl<|Gq 16 131071 rfl (fun _=>q_nilp rfl)<|Gf 17 262143 3 rfl<|G1 18 524287 rfl (BC hs8 hb rfl)<|Gh 19 1048575 rfl (Ks [T,F,F,F]) (h_call V rfl ?_)
  refine (th_aheadk hs8.sat hks O).mono ?_
  rintro _ w9 ⟨sa,sc,Mn,rfl,hs9,hn⟩
  have hkl:=hkl.mono' EncB.mono hs9.le
  have h:=h.mono' EncB.mono hs9.le
  have h2:=h2.mono' EncB.mono hs9.le
  have:=hs9.size
  have hT:=hT.t hs8 |>.t hs9
  have hb:=hs9.le _ _ hb
  have hbs:=hbs.mono hs9.le
  have hbl:=hbl.mono EncB.mono hs9.le
  have hx:=EncB.mono _ _ _ _ hs9.le hx
  refine ⟨(by repeat' first | exact trivial | exact BC hs9 hb rfl | exact BD hs9 hb rfl | refine And.intro ?_ ?_),?_⟩
  refine Gq 20 2097151 rfl (fun _=>(q_build (zs:=[(.int .i64 0),(.pointer none),(.slice none 0 0),(.slice none 0 0),(.int .i64 0)]) (places:=[(0,1),(1,1),(2,1),(3,1),(4,1)]) (cs:=[_,_,_,_,_]) V V rfl rfl))<|Gh 21 4194303 rfl (Ks [F,F,F]) (h_call V rfl ?_)
  refine (th_made (x:=x) (qx:=qx) (bs:=bs) (ks:=(.node y ls ms)::ks) hs9.sat hx hbs hbl hn (treps_cons.2 ⟨_,_,rfl,h2,hkl⟩) (by simp only [RT.sizes,RT.size]; omega)).mono ?_
  rintro _ w10 ⟨qn,Mn2,rfl,hs10,hm⟩
  have h:=h.mono' EncB.mono hs10.le
  have:=hs10.size
  have hb:=hs10.le _ _ hb
  have hT:=hT.t hs10
  refine ⟨(by repeat' first | exact trivial | exact BC hs10 hb rfl | exact BD hs10 hb rfl | refine And.intro ?_ ?_),?_⟩
  refine Ga 22 8388607 rfl<|Dx Z<|cw_ret<|⟨_,Rt rfl,_,_,rfl,hT,?_⟩
  rw [RT.link,if_neg (show ¬ ltB (RT.node y ls ms).root (RT.node x bs ks).root=true by rw [show ltB (RT.node y ls ms).root (RT.node x bs ks).root=false from hc2]; decide)]
  exact hm
theorem th_link {a b:RT Bt} {q q2:Option Addr} (hs:Sat M w) (h:TRep 383 1 EncB M a q) (h2:TRep 383 1 EncB M b q2) (hz:a.size+b.size≤1000000000):
  Dz 279 #[mval mb, .pointer q, .pointer q2] w (fun v w'=>∃ q M',v = .pointer q∧StepC Nope (2) M w M' w'∧TRep 383 1 EncB M' (RT.link ltB a b) q):=by
 cases a; cases b; exact th_link_n hs h h2 hz
theorem th_skew {x:Bt} {qx:Option Addr} {t u:RT Bt} {q q2:Option Addr} (hs:Sat M w) (hx:EncB M x [.pointer qx]) (h:TRep 383 1 EncB M t q) (h2:TRep 383 1 EncB M u q2) (hz:t.size+u.size<1000000000):
  Dz 264 #[mval mb, .agg #[.pointer qx], .pointer q, .pointer q2] w (fun v w'=>∃ q M',v = .pointer q∧StepC Nope (4) M w M' w'∧TRep 383 1 EncB M' (RT.skew ltB x t u) q):=by
 have hT:=hs.r
 obtain ⟨qa,rfl⟩:=h.some
 obtain ⟨qb,rfl⟩:=h2.some
 refine Fe Tryz.func264 [.tmp 8] rfl<|Ri fun Z=>?_
 have:=hT.size
 refine Bo hs rfl fun bx w1 hs1 hox ex=>?_
 have:=hs1.size
 have:=hox.1.lt
 refine Nar rfl Z fun Z=>Qm rfl<|Qm rfl<|Qm rfl<|Ca rfl ((th_link hs1.sat h h2 O).mono ?_)
 rintro _ w2 ⟨qn,Mn,rfl,hs2,hn⟩
 have h:=h.mono' EncB.mono hs2.le
 have h2:=h2.mono' EncB.mono hs2.le
 have:=hs2.size
 have hls:=RT.link_size ltB t u
 obtain ⟨v,hv⟩:∃ v,RT.link ltB t u=v:=⟨_,rfl⟩
 rw [hv] at hn hls
 obtain ⟨y,cs,ls⟩:=v
 obtain ⟨b3,xc3,bv3,bcs3,kv3,ka3,rfl,hb3,hx3,hxl3,hbs3,hbl3,hks3,hkl3⟩:=trep_node.1 hn
 obtain ⟨qx3,rfl,_⟩:=encB_iff.1 hx3
 obtain ⟨ba3,bk3,rfl,_,_⟩:=hbs3.slice
 obtain ⟨kp3,kk3,rfl,_,_⟩:=hks3.slice
 simp only [RT.size] at hls
 have hl3:=RT.sizes_length ls
 clear h h2
 refine Na rfl Z<|cw_seq fun _ hK3=>Ri fun Z=>Qm rfl<|Qq rfl (qn rfl)<|Nx Z<|cw_false rfl<|cw_skip<|hK3 _ _<|Ri fun Z=>Qm rfl<|Qq rfl (q_nilp rfl)<|Qf 1 rfl<|Qc 1 rfl (BD hs2 hb3 rfl) ?_
 have hT:=hT.t hs1 |>.t hs2
 have:=hT.size
 refine Al (.agg #[(.pointer none)]) hs2.sat rfl fun br w3 hs3 hor er=>?_
 have:=hs3.size
 have:=hor.1.lt
 refine St hs3.sat hor rfl fun w4 hs4 hor=>?_
 have:=hs4.size
 refine Nx Z<|cw_seq fun _ hK6=>Rv fun Z=>?_
 have hs5:=Step.drew hs4.sat
 have:=hs5.size
 refine Gm 0 1 rfl<|Gm 1 3 rfl<|Gq 2 7 rfl (fun _=>q_nilp rfl)<|Gf 3 15 1 rfl<|Gc 4 31 1 rfl (BD hs5 hb3 rfl)<|Gq 5 63 rfl (fun _=>qf rfl) ?_
 have hox:=hox.t hs2 |>.t hs3 |>.u hs4 |>.t hs5
 refine Gc 7 191 1 rfl (OD hox rfl)<|Gq 8 447 rfl (fun _=>qf rfl)<|Gh 6 511 rfl (Ks [F,F]) (h_invoke (f:=246) (r:= .agg #[.pointer qx3]) V rfl rfl V ?_)
 refine (b_key (t:=y) hs5.sat hx3).mono ?_
 rintro _ w6 ⟨rfl,hs6⟩
 have:=hs6.size
 have hx:=EncB.mono _ _ _ _ hs2.le hx
 have hT:=hT.t hs3 |>.o hs4 |>.t hs5 |>.t hs6
 have hor:=hor.t hs5 |>.t hs6
 have hox:=hox.t hs6
 refine ⟨(by repeat' first | exact trivial | exact OD hox rfl | exact BD hs6 hb3 rfl | refine And.intro ?_ ?_),?_⟩
 refine Gh 9 1023 rfl (Ks [F,F]) (h_invoke (f:=246) (r:= .agg #[.pointer qx]) V rfl rfl V ?_)
 refine (b_key (t:=x) hs6.sat hx).mono ?_
 rintro _ w7 ⟨rfl,hs7⟩
 have:=hs7.size
 have hox:=hox.t hs7
 have hor:=hor.t hs7
 have hT:=hT.t hs7
 refine ⟨(by repeat' first | exact trivial | exact OD hox rfl | exact BD hs7 hb3 rfl | refine And.intro ?_ ?_),?_⟩
 refine Gh 10 2047 rfl (Ks [F,F]) (h_call V rfl ?_)
 refine (m_less (a:=y.key) (b:=x.key) hs7.sat).mono ?_
 rintro _ w8 ⟨rfl,hs8⟩
 have hkl3:=hkl3.mono' EncB.mono hs8.le
 have:=hs8.size
 have hx:=EncB.mono _ _ _ _ hs8.le hx
 have hox:=hox.t hs8
 have hb3:=hs8.le _ _ hb3
 have hbs3:=hbs3.mono hs8.le
 have hbl3:=hbl3.mono EncB.mono hs8.le
 have hks3:=hks3.mono hs8.le
 have hx3:=EncB.mono _ _ _ _ hs8.le hx3
 have hor:=hor.t hs8
 have hT:=hT.t hs8
 refine ⟨(by repeat' first | exact trivial | exact OD hox rfl | exact BD hs8 hb3 rfl | refine And.intro ?_ ?_),?_⟩
 refine Gq 11 4095 rfl (fun _=>q_not rfl)<|Dx Z<|cw_cond rfl (fun hc1=>?_) (fun hc1=>?_)
 ·skip
  refine cw_region fun _ Z=>Qc 1 rfl (OD hox rfl)<|Qc 1 rfl (OD hor rfl)<|St hs8.sat hor rfl fun w9 hs9 hor=>?_
  have:=hs9.size
  have hox:=hox.u hs9
  refine St hs9.sat hox rfl fun w10 hs10 hox=>?_
  have:=hs10.size
  refine as_nil (Z _ _ ?_)
  refine hK6 _ _<|Rv fun Z=>?_
  have hs11:=Step.drew hs10.sat
  have:=hs11.size
  refine Gm 0 1 rfl<|Gm 1 3 rfl<|Gq 2 7 rfl (fun _=>q_nilp rfl)<|Gf 3 15 0 rfl<|G1 4 31 rfl (BC hs11 hb3 rfl) ?_
  have hor:=hor.u hs10 |>.t hs11
  refine Gc 5 63 1 rfl (OD hor rfl) ?_
  have hox:=hox.t hs11
  refine Gc 6 127 1 rfl (OD hox rfl)<|Gm 7 255 rfl<|Gq 8 511 rfl (fun _=>q_nilp rfl)<|Gf 9 1023 2 rfl<|G1 10 2047 rfl (BC hs11 hb3 rfl)<|Gm 12 6143 rfl<|Gq 13 14335 rfl (fun _=>q_nilp rfl)<|Gf 14 30719 3 rfl<|G1 15 63487 rfl (BC hs11 hb3 rfl)<|Gh 11 65535 rfl (Ks [F,T,T,F,F]) (h_call V rfl ?_)
  refine (th_aheadx (qx:=qx3) hs11.sat hbs3 (encB_one hbl3) O).mono ?_
  rintro _ w12 ⟨sa,sc,Mn3,rfl,hs12,hn⟩
  have hkl3:=hkl3.mono' EncB.mono hs12.le
  have:=hs12.size
  have hT:=hT.o hs9 |>.o hs10 |>.t hs11 |>.t hs12
  have hx:=EncB.mono _ _ _ _ hs12.le hx
  have hox:=hox.t hs12
  have hb3:=hs12.le _ _ hb3
  have hbs3:=hbs3.mono hs12.le
  have hbl3:=hbl3.mono EncB.mono hs12.le
  have hks3:=hks3.mono hs12.le
  have hx3:=EncB.mono _ _ _ _ hs12.le hx3
  have hor:=hor.t hs12
  refine ⟨(by repeat' first | exact trivial | exact BC hs12 hb3 rfl | exact OD hor rfl | refine And.intro ?_ ?_),?_⟩
  refine Gq 16 131071 rfl (fun _=>(q_build (zs:=[(.int .i64 0),(.pointer none),(.slice none 0 0),(.slice none 0 0),(.int .i64 0)]) (places:=[(0,1),(1,1),(2,1),(3,1),(4,1)]) (cs:=[_,_,_,_,_]) V V rfl rfl))<|Gh 17 262143 rfl (Ks [F,F,F]) (h_call V rfl ?_)
  refine (th_made (x:=x) (qx:=qx) (bs:=y::cs) (ks:=ls) hs12.sat hx hn ⟨_,_,rfl,rfl,hx3,hbl3⟩ hks3 hkl3 (by simp only [List.length_cons]; omega)).mono ?_
  rintro _ w13 ⟨qn2,Mn4,rfl,hs13,hm⟩
  have hkl3:=hkl3.mono' EncB.mono hs13.le
  have:=hs13.size
  have hx:=EncB.mono _ _ _ _ hs13.le hx
  have hox:=hox.t hs13
  have hb3:=hs13.le _ _ hb3
  have hbs3:=hbs3.mono hs13.le
  have hbl3:=hbl3.mono EncB.mono hs13.le
  have hks3:=hks3.mono hs13.le
  have hx3:=EncB.mono _ _ _ _ hs13.le hx3
  have hor:=hor.t hs13
  have hn:=hn.mono hs13.le
  have hT:=hT.t hs13
  refine ⟨(by repeat' first | exact trivial | exact BC hs13 hb3 rfl | exact OD hor rfl | refine And.intro ?_ ?_),?_⟩
  refine Ga 18 524287 rfl<|Dx Z<|cw_ret<|⟨_,Rt rfl,_,_,rfl,hT,?_⟩
  unfold RT.skew
  rw [hv,if_neg (show ¬ (ltB (RT.node y cs ls).root x=true) from fun h6=>by have h5:(ltB y x)=false:=(by simpa [ltB] using hc1); have h6:(ltB y x)=true:=h6; rw [h5] at h6; cases h6)]
  exact hm
 ·skip
  refine cw_skip<|hK6 _ _<|Rv fun Z=>?_
  have hs14:=Step.drew hs8.sat
  have:=hs14.size
  refine Gm 0 1 rfl<|Gm 1 3 rfl<|Gq 2 7 rfl (fun _=>q_nilp rfl)<|Gf 3 15 0 rfl<|G1 4 31 rfl (BC hs14 hb3 rfl) ?_
  have hor:=hor.t hs14
  refine Gc 5 63 1 rfl (OD hor rfl) ?_
  have hox:=hox.t hs14
  refine Gc 6 127 1 rfl (OD hox rfl)<|Gm 7 255 rfl<|Gq 8 511 rfl (fun _=>q_nilp rfl)<|Gf 9 1023 2 rfl<|G1 10 2047 rfl (BC hs14 hb3 rfl)<|Gm 12 6143 rfl<|Gq 13 14335 rfl (fun _=>q_nilp rfl)<|Gf 14 30719 3 rfl<|G1 15 63487 rfl (BC hs14 hb3 rfl)<|Gh 11 65535 rfl (Ks [F,T,T,F,F]) (h_call V rfl ?_)
  refine (th_aheadx (qx:=qx) hs14.sat hbs3 (encB_one hbl3) O).mono ?_
  rintro _ w15 ⟨sa,sc,Mn3,rfl,hs15,hn⟩
  have hkl3:=hkl3.mono' EncB.mono hs15.le
  have:=hs15.size
  have hT:=hT.t hs14 |>.t hs15
  have hx:=EncB.mono _ _ _ _ hs15.le hx
  have hb3:=hs15.le _ _ hb3
  have hbl3:=hbl3.mono EncB.mono hs15.le
  have hks3:=hks3.mono hs15.le
  have hx3:=EncB.mono _ _ _ _ hs15.le hx3
  have hor:=hor.t hs15
  refine ⟨(by repeat' first | exact trivial | exact BC hs15 hb3 rfl | exact OD hor rfl | refine And.intro ?_ ?_),?_⟩
  refine Gq 16 131071 rfl (fun _=>(q_build (zs:=[(.int .i64 0),(.pointer none),(.slice none 0 0),(.slice none 0 0),(.int .i64 0)]) (places:=[(0,1),(1,1),(2,1),(3,1),(4,1)]) (cs:=[_,_,_,_,_]) V V rfl rfl))<|Gh 17 262143 rfl (Ks [F,F,F]) (h_call V rfl ?_)
  refine (th_made (x:=y) (qx:=qx3) (bs:=x::cs) (ks:=ls) hs15.sat hx3 hn ⟨_,_,rfl,rfl,hx,hbl3⟩ hks3 hkl3 (by simp only [List.length_cons]; omega)).mono ?_
  rintro _ w16 ⟨qn2,Mn4,rfl,hs16,hm⟩
  have:=hs16.size
  have hb3:=hs16.le _ _ hb3
  have hor:=hor.t hs16
  have hT:=hT.t hs16
  refine ⟨(by repeat' first | exact trivial | exact BC hs16 hb3 rfl | exact OD hor rfl | refine And.intro ?_ ?_),?_⟩
  refine Ga 18 524287 rfl<|Dx Z<|cw_ret<|⟨_,Rt rfl,_,_,rfl,hT,?_⟩
  unfold RT.skew
  rw [hv,if_pos (show (ltB (RT.node y cs ls).root x=true) from (show (ltB y x)=true by simpa [ltB] using hc1))]
  exact hm
end Go.Proofs.YtnnldppehojffaaGreat
/- Skew binomial heaps of heaps, part 1. -/
namespace Go.Proofs.YtnnldppehojffaaGreat
open Go Go.Eng
variable {mb:Option Nat} {w:World} {M:Mem mb}
theorem sh_least1 {ts:List (RT Bt)} {l:List (Option Addr)} {sa:Option Addr} {sc:Nat} {b1 b2 b3 i j:Nat} {ki kb:RT Bt} (hs:Sat M w) (hl:M b1=some ([.slice sa ts.length sc],368)) (hm:M b3=some ([mval mb],49)) (hob:Own w M b2 [.int .i64 j] 3) (hr:Rds M w 1 (.slice sa ts.length sc) ts.length (ptrs l)) (hk:TReps 383 1 EncB M ts l) (hi:ts[i]? = some ki) (hj:ts[j]? = some kb):
  Dz 283 #[.int .i64 i, .pointer (some ⟨b1,0,none⟩), .pointer (some ⟨b2,0,none⟩), .pointer (some ⟨b3,0,none⟩)] w (fun v w'=>v = .bool (ltB ki.root kb.root)∧StepC Nope 1 M w (M.tick 1) w'):=by
 have hT:=hs.r
 have hr0:=hr
 have hil:i<ts.length:=(List.getElem?_eq_some_iff.1 hi).1
 have hjl:j<ts.length:=(List.getElem?_eq_some_iff.1 hj).1
 obtain ⟨iq,hiq,hki⟩:=hk.get hi
 obtain ⟨bq,hbq,hkb⟩:=hk.get hj
 obtain ⟨g,o,rfl⟩:=(hr0 _ _ _ hT).there O
 have hbl2:=hob.1.lt
 refine Fe Tryz.func283 [.tmp 5] rfl<|Ri fun Z=>Nar rfl Z fun Z=>Q1 rfl (BlkR.cell (hs _ _ _ hl) rfl)<|Qm rfl<|Qq rfl (qi 360 1 rfl)<|Q1 rfl ((hr0 _ _ _ hT).cell (u:= .pointer iq) (j:=((i:Nat):Int).toNat*1) (by rw [show ((i:Nat):Int).toNat*1=i from by omega]; simp [ptrs,hiq]))<|Ca rfl ((th_root hs hki).mono ?_)
 rintro _ w1 ⟨qhki,rfl,hs1,hhki⟩
 have:=hs1.size
 refine Qm rfl<|Qe rfl<|Qe rfl ?_
 have hT:=hT.t hs1
 have:=hT.size
 refine Al (.agg #[(.pointer none)]) hs1.sat rfl fun bu w2 hs2 hou eu=>?_
 have:=hs2.size
 have:=hou.1.lt
 refine St hs2.sat hou rfl fun w3 hs3 hou=>?_
 have:=hs3.size
 refine Nar rfl Z fun Z=>Q1 rfl (BC hs3 hl rfl) ?_
 have hob:=hob.t hs1 |>.t hs2 |>.u hs3
 refine Q1 rfl (OC hob rfl)<|Qq rfl (qi 360 1 rfl) ?_
 have hT:=hT.t hs2 |>.o hs3
 refine Q1 rfl ((hr0 _ _ _ hT).cell (u:= .pointer bq) (j:=((j:Nat):Int).toNat*1) (by rw [show ((j:Nat):Int).toNat*1=j from by omega]; simp [ptrs,hbq]))<|Ca rfl ((th_root hs3.sat hkb).mono ?_)
 rintro _ w4 ⟨qhkb,rfl,hs4,hhkb⟩
 have:=hs4.size
 refine Qm rfl<|Qe rfl<|Qe rfl ?_
 have hT:=hT.t hs4
 have:=hT.size
 refine Al (.agg #[(.pointer none)]) hs4.sat rfl fun bv w5 hs5 hov ev=>?_
 have:=hs5.size
 have:=hov.1.lt
 refine St hs5.sat hov rfl fun w6 hs6 hov=>?_
 have:=hs6.size
 refine Na rfl Z<|Rv fun Z=>?_
 have hs7:=Step.drew hs6.sat
 have:=hs7.size
 refine G1 0 1 rfl (BC hs7 hm rfl) ?_
 have hou:=hou.t hs4 |>.t hs5 |>.u hs6 |>.t hs7
 refine Gc 1 3 1 rfl (OD hou rfl)<|Gq 2 7 rfl (fun _=>qf rfl) ?_
 have hov:=hov.t hs7
 refine Gc 4 23 1 rfl (OD hov rfl)<|Gq 5 55 rfl (fun _=>qf rfl)<|Gh 3 63 rfl (Ks [F,F,F]) (h_invoke (f:=246) (r:= .agg #[.pointer qhki]) V rfl rfl V ?_)
 refine (b_key (t:=ki.root) hs7.sat hhki).mono ?_
 rintro _ w8 ⟨rfl,hs8⟩
 have:=hs8.size
 have hT:=hT.t hs5 |>.o hs6 |>.t hs7 |>.t hs8
 have hou:=hou.t hs8
 have hov:=hov.t hs8
 refine ⟨(by repeat' first | exact trivial | exact BC hs8 hm rfl | exact OD hou rfl | exact OD hov rfl | refine And.intro ?_ ?_),?_⟩
 refine Gh 6 127 rfl (Ks [F,F,F]) (h_invoke (f:=246) (r:= .agg #[.pointer qhkb]) V rfl rfl V ?_)
 refine (b_key (t:=kb.root) hs8.sat hhkb).mono ?_
 rintro _ w9 ⟨rfl,hs9⟩
 have:=hs9.size
 have hou:=hou.t hs9
 have hov:=hov.t hs9
 have hT:=hT.t hs9
 refine ⟨(by repeat' first | exact trivial | exact BC hs9 hm rfl | exact OD hou rfl | exact OD hov rfl | refine And.intro ?_ ?_),?_⟩
 refine Gh 7 255 rfl (Ks [F,F,T]) (h_call V rfl ?_)
 refine (m_less (a:=ki.root.key) (b:=kb.root.key) hs9.sat).mono ?_
 rintro _ w10 ⟨rfl,hs10⟩
 have:=hs10.size
 have hou:=hou.t hs10
 have hov:=hov.t hs10
 have hT:=hT.t hs10
 refine ⟨(by repeat' first | exact trivial | exact OD hou rfl | exact OD hov rfl | refine And.intro ?_ ?_),?_⟩
 refine Ga 8 511 rfl<|Dx Z<|cw_ret ?_
 exact ⟨_,Rt rfl,rfl,hT.tk rfl⟩
theorem sh_least {ts:List (RT Bt)} {l:List (Option Addr)} {sa:Option Addr} {sc:Nat} (hs:Sat M w) (hr:Rds M w 1 (.slice sa ts.length sc) ts.length (ptrs l)) (hk:TReps 383 1 EncB M ts l) (hz:ts.length≤1000000000):
  Dz 267 #[mval mb, .slice sa ts.length sc] w (fun v w'=>v = .int .i64 (leastN ltB (ts.map RT.root) (ts.length-1):Nat)∧StepC Nope (ts.length-1) M w (M.tick (ts.length-1)) w'):=by
 have hT:=hs.r
 have hrts:∀ (j:Nat) (t:RT Bt),ts[j]? = some t→(ts.map RT.root)[j]? = some t.root:=fun j t h=>by rw [List.getElem?_map,h]; rfl
 have hr0:=hr
 refine Fe Tryz.func267 [.tmp 4] rfl<|Ri fun Z=>Bm hs rfl fun b1 M1 w1 hs1 hb1 e1=>?_
 have hk:=hk.mono' EncB.mono hs1.le
 have:=hs1.size
 refine Bm hs1.sat rfl fun b2 M2 w2 hs2 hb2 e2=>?_
 have hk:=hk.mono' EncB.mono hs2.le
 have:=hs2.size
 refine Nar rfl Z fun Z=>?_
 have hT:=hT.t hs1 |>.t hs2
 have:=hT.size
 refine Al (.int .i64 0) hs2.sat rfl fun bb w3 hs3 hob eb=>?_
 have:=hs3.size
 have:=hob.1.lt
 refine St hs3.sat hob rfl fun w4 hs4 hob=>?_
 have:=hs4.size
 refine Nr Z fun Z=>Qq rfl (q_func rfl rfl)<|Na rfl Z<|cw_seq fun _ hK4=>Ri fun Z=>Na rfl Z<|cw_block ?_
 have hb1:=hs2.le _ _ hb1
 have hT:=hT.t hs3 |>.o hs4
 refine cw_loop (fun mm l1 w1=>∃ (i:Nat) (z:Int) (M3:Mem mb),mm=ts.length-i∧1≤i∧(i≤ts.length∨i=1)∧z=(leastN ltB (ts.map RT.root) (i-1):Nat)∧l1=[(3, .pointer (some ⟨b2,0,none⟩)),(5, .pointer (some ⟨bb,0,none⟩)),(6, .func (.func 283) #[] #[.pointer (some ⟨b2,0,none⟩), .pointer (some ⟨bb,0,none⟩), .pointer (some ⟨b1,0,none⟩)]),(7, .int .i64 i)]∧Le M2 M3∧StepC Nope (i-1) M w M3 w1∧Own w1 M3 bb [.int .i64 z] 3) (ts.length-1) [(3, .pointer (some ⟨b2,0,none⟩)),(5, .pointer (some ⟨bb,0,none⟩)),(6, .func (.func 283) #[] #[.pointer (some ⟨b2,0,none⟩), .pointer (some ⟨bb,0,none⟩), .pointer (some ⟨b1,0,none⟩)]),(7, .int .i64 (1:Nat))] (.cons rfl (.cons rfl (.cons rfl (.cons rfl (.nil _))))) ?_ ?_
 ·exact ⟨1,_,_,by omega,by omega,by omega,rfl,rfl,Le.refl _,hT,hob⟩
 have hbw0:w.heap.size≤bb:=by omega
 clear hT hob
 rintro mm l1 w1 ⟨i,z,M3,rfl,hi1,hi,rfl,rfl,hle,hT,hob⟩
 have hk:=hk.mono' EncB.mono hle
 have hb1:=hle _ _ hb1
 have hb2:=hle _ _ hb2
 refine cw_seq fun _ hK6=>Ri fun Z=>Qm rfl<|Q1 rfl (BC hT hb2 rfl)<|Qq rfl (ql rfl)<|Qq rfl (q_lt rfl rfl)<|Nx Z<|cw_cond rfl (fun hc0=>?_) (fun hc0=>?_)
 ·have hlt:i<ts.length:=by have:=of_decide_eq_true hc0; omega
  obtain ⟨k,hkk⟩:∃ k,ts[i]? = some k:=⟨ts[i],by simp⟩
  have hbl:=leastN_le ltB (ts.map RT.root) (i-1)
  obtain ⟨kb,hkb0⟩:∃ k,ts[leastN ltB (ts.map RT.root) (i-1)]? = some k:=⟨ts[leastN ltB (ts.map RT.root) (i-1)]'O,by simp⟩
  have hstep:=leastN_step (lt:=ltB) (i:=i-1) (hrts _ k (by rw [show i-1+1=i by omega]; exact hkk)) (hrts _ kb hkb0)
  rw [show i-1+1=i by omega] at hstep
  refine cw_skip<|hK6 _ _<|cw_seq fun _ hK8=>cw_block<|Ri fun Z=>Qm rfl<|Qm rfl<|as_h rfl (h_callv (f:=283) (first:=[]) (cap:=[.pointer (some ⟨b2,0,none⟩), .pointer (some ⟨bb,0,none⟩), .pointer (some ⟨b1,0,none⟩)]) V rfl rfl rfl ?_)
  refine (sh_least1 hT.sat hb2 hb1 hob (hr0.step hT) hk hkk hkb0).mono ?_
  rintro _ w5 ⟨rfl,hs5⟩
  have:=hs5.size
  refine Nx Z ?_
  have hob:=hob.t hs5
  have hT:=hT.t hs5
  refine cw_cond rfl (fun hc1=>?_) (fun hc1=>?_)
  ·rw [if_pos hc1] at hstep
   refine cw_region fun _ Z=>Qm rfl<|St hs5.sat hob rfl fun w6 hs6 hob=>?_
   have:=hs6.size
   refine as_nil (Z _ _ ?_)
   refine hK8 _ _<|cw_region fun _ Z=>Qm rfl<|Qq rfl (qA rfl)<|Qa rfl<|as_nil (Z _ _ ?_)
   have hT:=hT.o hs6
   refine ⟨_,_,?_,(.cons rfl (.cons rfl (.cons rfl (.cons rfl (.nil _))))),i+1,_,M3.tick 1,rfl,by omega,by omega,?_,rfl,hle,hT.to O,hob⟩
   ·omega
   ·rw [show i+1-1=i by omega,hstep]
  ·rw [if_neg (by rw [hc1]; decide)] at hstep
   refine cw_skip<|hK8 _ _<|cw_region fun _ Z=>Qm rfl<|Qq rfl (qA rfl)<|Qa rfl<|as_nil (Z _ _ ?_)
   refine ⟨_,_,?_,(.cons rfl (.cons rfl (.cons rfl (.cons rfl (.nil _))))),i+1,_,M3.tick 1,rfl,by omega,by omega,?_,rfl,hle,hT.to O,hob⟩
   ·omega
   ·rw [show i+1-1=i by omega,hstep]
 ·have hge:i-1=ts.length-1:=by have:=of_decide_eq_false hc0; omega
  refine cw_exit<|hK4 _ _<|Ri fun Z=>Q1 rfl (OC hob rfl)<|Na rfl Z<|cw_ret ?_
  exact ⟨_,Rt rfl,by rw [hge]; rfl,hT.tk O⟩
theorem sh_insert_n {x:Bt} {qx:Option Addr} (hs:Sat M w) (hx:EncB M x [.pointer qx]):
  Dz 253 #[.agg #[.pointer none],mval mb, .agg #[.pointer qx]] w (fun v w'=>∃ q M',v = .agg #[.pointer q]∧StepC Nope (sinsertC ([]:List (RT Bt))) M w M' w'∧FRep 381 383 1 EncB M' (sinsert ltB x []) q):=by
 have hT:=hs.r
 refine Fe Tryz.func253 [.cell 6 345] rfl<|Ri fun Z=>Bm hs rfl fun b1 M1 w1 hs1 hb1 e1=>?_
 have:=hs1.size
 refine Bm hs1.sat rfl fun b2 M2 w2 hs2 hb2 e2=>?_
 have:=hs2.size
 have hT:=hT.t hs1 |>.t hs2
 have:=hT.size
 refine Al (.agg #[(.pointer none)]) hs2.sat rfl fun br w3 hs3 hor er=>?_
 have:=hs3.size
 have:=hor.1.lt
 refine Nr Z fun Z=>Qf 0 rfl ?_
 have hb1:=hs2.le _ _ hb1
 refine Qc 1 rfl (BD hs3 hb1 rfl)<|Ca rfl ((ch_first_n hs3.sat).mono ?_)
 rintro _ w4 ⟨rfl,hs4⟩
 have:=hs4.size
 refine Qm rfl<|Qe rfl<|Qe rfl<|Qa rfl<|Nar rfl Z fun Z=>Qf 0 rfl<|Qc 1 rfl (BD hs4 hb1 rfl)<|Ca rfl ((ch_rest_n hs4.sat).mono ?_)
 rintro _ w5 ⟨rfl,hs5⟩
 have:=hs5.size
 refine Ca rfl ((ch_first_n hs5.sat).mono ?_)
 rintro _ w6 ⟨rfl,hs6⟩
 have:=hs6.size
 refine Qm rfl<|Qe rfl<|Qe rfl<|Qa rfl<|Na rfl Z<|cw_seq fun _ hK4=>Ri fun Z=>Qm rfl<|Qm rfl<|as_gskip rfl rfl rfl rfl rfl<|as_gskip rfl rfl rfl rfl rfl<|as_gskip rfl rfl rfl rfl rfl<|as_gskip rfl rfl rfl rfl rfl<|as_gskip rfl rfl rfl rfl rfl<|Qq rfl (q_pick_f rfl rfl)<|Nx Z<|cw_false rfl<|cw_skip<|hK4 _ _<|Rv fun Z=>?_
 have hs7:=Step.drew hs6.sat
 have:=hs7.size
 refine Gf 0 1 0 rfl<|Gc 1 3 1 rfl (BD hs7 hb1 rfl)<|Gm 2 7 rfl<|Gc 3 15 1 rfl (BD hs7 hb2 rfl)<|Gh 4 31 rfl (Ks [T,F]) (h_call V rfl ?_)
 have hx:=EncB.mono _ _ _ _ hs2.le (EncB.mono _ _ _ _ hs1.le hx)
 refine (th_leaf (x:=x) hs7.sat hx).mono ?_
 rintro _ w8 ⟨qn,Mn,rfl,hs8,hn⟩
 have:=hs8.size
 have hT:=hT.t hs3 |>.t hs4 |>.t hs5 |>.t hs6 |>.t hs7 |>.t hs8
 have hor:=hor.t hs4 |>.t hs5 |>.t hs6 |>.t hs7 |>.t hs8
 have hb1:=hs8.le _ _ hb1
 refine ⟨(by repeat' first | exact trivial | exact BD hs8 hb1 rfl | refine And.intro ?_ ?_),?_⟩
 refine Gh 5 63 rfl (Ks [T]) (h_call V rfl ?_)
 refine (ch_push hs8.sat (show CRep 381 _ [] (.pointer none) from rfl) (by simp)).mono ?_
 rintro _ w9 ⟨qp,Mp,rfl,hs9,hp⟩
 have hn:=hn.mono' EncB.mono hs9.le
 have:=hs9.size
 refine ⟨trivial,?_⟩
 refine Gq 6 127 rfl (fun _=>(q_build (zs:=[(.pointer none)]) (places:=[(0,1)]) (cs:=[_]) V V rfl rfl)) ?_
 have hor:=hor.t hs9
 refine G0 7 255 rfl rfl (h_store hs9.sat hor rfl rfl rfl V rfl rfl rfl fun w10 hs10 hn10=>?_)
 clear hor; have hor:=hn10; clear hn10
 have:=hs10.size
 refine ⟨trivial,?_⟩
 refine Dx Z<|cw_ret ?_
 have hT:=hT.t hs9 |>.o hs10
 exact ⟨_,(Rc 1 rfl (OD hor rfl) res_nil),_,_,rfl,hT.to rfl,_,hp,treps_cons.2 ⟨_,_,rfl,hn,treps_nil.2 rfl⟩⟩
theorem sh_insert_1 {x:Bt} {qx:Option Addr} {ta:RT Bt} {q:Option Addr} (hs:Sat M w) (hx:EncB M x [.pointer qx]) (h:FRep 381 383 1 EncB M [ta] q):
  Dz 253 #[.agg #[.pointer q],mval mb, .agg #[.pointer qx]] w (fun v w'=>∃ q M',v = .agg #[.pointer q]∧StepC Nope (sinsertC ([ta]:List (RT Bt))) M w M' w'∧FRep 381 383 1 EncB M' (sinsert ltB x [ta]) q):=by
 have hT:=hs.r
 obtain ⟨l,hc,hk⟩:=h
 obtain ⟨qa,l2,rfl,hka,hk2⟩:=treps_cons.1 hk
 obtain rfl:=treps_nil.1 hk2
 clear hk2
 refine Fe Tryz.func253 [.cell 6 345] rfl<|Ri fun Z=>Bm hs rfl fun b1 M1 w1 hs1 hb1 e1=>?_
 have hk:=hk.mono' EncB.mono hs1.le
 have:=hs1.size
 refine Bm hs1.sat rfl fun b2 M2 w2 hs2 hb2 e2=>?_
 have hk:=hk.mono' EncB.mono hs2.le
 have:=hs2.size
 have hT:=hT.t hs1 |>.t hs2
 have:=hT.size
 refine Al (.agg #[(.pointer none)]) hs2.sat rfl fun br w3 hs3 hor er=>?_
 have:=hs3.size
 have:=hor.1.lt
 refine Nr Z fun Z=>Qf 0 rfl ?_
 have hb1:=hs2.le _ _ hb1
 refine Qc 1 rfl (BD hs3 hb1 rfl) ?_
 have hc:=hc.mono hs1.le |>.mono hs2.le
 refine Ca rfl ((ch_first hs3.sat hc).mono ?_)
 rintro _ w4 ⟨rfl,hs4⟩
 have:=hs4.size
 refine Qm rfl<|Qe rfl<|Qe rfl<|Qa rfl<|Nar rfl Z fun Z=>Qf 0 rfl<|Qc 1 rfl (BD hs4 hb1 rfl)<|Ca rfl ((ch_rest hs4.sat hc).mono ?_)
 rintro _ w5 ⟨qr,rfl,hs5,hcr⟩
 have:=hs5.size
 have hx:=EncB.mono _ _ _ _ hs2.le (EncB.mono _ _ _ _ hs1.le hx)
 have hT:=hT.t hs3 |>.t hs4 |>.t hs5
 have hor:=hor.t hs4 |>.t hs5
 have hqr:qr=none:=by
  have h:Value.pointer qr = .pointer none:=hcr
  cases h; rfl
 subst hqr
 refine Ca rfl ((ch_first_n hs5.sat).mono ?_)
 rintro _ w6 ⟨rfl,hs6⟩
 have:=hs6.size
 refine Qm rfl<|Qe rfl<|Qe rfl<|Qa rfl<|Na rfl Z<|cw_seq fun _ hK4=>Ri fun Z=>Qm rfl<|Qm rfl<|as_gskip rfl rfl rfl rfl rfl<|as_gskip rfl rfl rfl rfl rfl<|as_gskip rfl rfl rfl rfl rfl<|as_gskip rfl rfl rfl rfl rfl<|as_gskip rfl rfl rfl rfl rfl<|Qq rfl (q_pick_f rfl rfl)<|Nx Z<|cw_false rfl<|cw_skip<|hK4 _ _<|Rv fun Z=>?_
 have hs7:=Step.drew hs6.sat
 have:=hs7.size
 refine Gf 0 1 0 rfl<|Gc 1 3 1 rfl (BD hs7 hb1 rfl)<|Gm 2 7 rfl<|Gc 3 15 1 rfl (BD hs7 hb2 rfl)<|Gh 4 31 rfl (Ks [T,F]) (h_call V rfl ?_)
 refine (th_leaf (x:=x) hs7.sat hx).mono ?_
 rintro _ w8 ⟨qn,Mn,rfl,hs8,hn⟩
 have hk:=hk.mono' EncB.mono hs8.le
 have:=hs8.size
 have hor:=hor.t hs6 |>.t hs7 |>.t hs8
 have hT:=hT.t hs6 |>.t hs7 |>.t hs8
 have hc:=hc.mono hs8.le
 have hb1:=hs8.le _ _ hb1
 refine ⟨(by repeat' first | exact trivial | exact BD hs8 hb1 rfl | refine And.intro ?_ ?_),?_⟩
 refine Gh 5 63 rfl (Ks [T]) (h_call V rfl ?_)
 refine (ch_push hs8.sat hc (by simp)).mono ?_
 rintro _ w9 ⟨qp,Mp,rfl,hs9,hp⟩
 have hk:=hk.mono' EncB.mono hs9.le
 have hn:=hn.mono' EncB.mono hs9.le
 have:=hs9.size
 refine ⟨trivial,?_⟩
 refine Gq 6 127 rfl (fun _=>(q_build (zs:=[(.pointer none)]) (places:=[(0,1)]) (cs:=[_]) V V rfl rfl)) ?_
 have hor:=hor.t hs9
 refine G0 7 255 rfl rfl (h_store hs9.sat hor rfl rfl rfl V rfl rfl rfl fun w10 hs10 hn10=>?_)
 clear hor; have hor:=hn10; clear hn10
 have:=hs10.size
 refine ⟨trivial,?_⟩
 refine Dx Z<|cw_ret ?_
 have hT:=hT.t hs9 |>.o hs10
 exact ⟨_,(Rc 1 rfl (OD hor rfl) res_nil),_,_,rfl,hT.to rfl,_,hp,treps_cons.2 ⟨_,_,rfl,hn,hk⟩⟩
theorem sh_insert_2 {x:Bt} {qx:Option Addr} {ta tb:RT Bt} {ts:List (RT Bt)} {q:Option Addr} (hs:Sat M w) (hx:EncB M x [.pointer qx]) (h:FRep 381 383 1 EncB M (ta::tb::ts) q) (hz:RT.sizes (ta::tb::ts)<1000000000):
  Dz 253 #[.agg #[.pointer q],mval mb, .agg #[.pointer qx]] w (fun v w'=>∃ q M',v = .agg #[.pointer q]∧StepC Nope (sinsertC ((ta::tb::ts):List (RT Bt))) M w M' w'∧FRep 381 383 1 EncB M' (sinsert ltB x (ta::tb::ts)) q):=by
 have hT:=hs.r
 obtain ⟨l,hc,hk⟩:=h
 obtain ⟨qa,l2,rfl,hka,hk2⟩:=treps_cons.1 hk
 obtain ⟨qb,lt,rfl,hkb,hkt⟩:=treps_cons.1 hk2
 clear hk2
 refine Fe Tryz.func253 [.cell 6 345] rfl<|Ri fun Z=>Bm hs rfl fun b1 M1 w1 hs1 hb1 e1=>?_
 have hk:=hk.mono' EncB.mono hs1.le
 have hka:=hka.mono' EncB.mono hs1.le
 have hkb:=hkb.mono' EncB.mono hs1.le
 have hkt:=hkt.mono' EncB.mono hs1.le
 have:=hs1.size
 refine Bm hs1.sat rfl fun b2 M2 w2 hs2 hb2 e2=>?_
 have hk:=hk.mono' EncB.mono hs2.le
 have hka:=hka.mono' EncB.mono hs2.le
 have hkb:=hkb.mono' EncB.mono hs2.le
 have hkt:=hkt.mono' EncB.mono hs2.le
 have:=hs2.size
 have hT:=hT.t hs1 |>.t hs2
 have:=hT.size
 refine Al (.agg #[(.pointer none)]) hs2.sat rfl fun br w3 hs3 hor er=>?_
 have:=hs3.size
 have:=hor.1.lt
 refine Nr Z fun Z=>Qf 0 rfl ?_
 have hb1:=hs2.le _ _ hb1
 refine Qc 1 rfl (BD hs3 hb1 rfl) ?_
 have hc:=hc.mono hs1.le |>.mono hs2.le
 refine Ca rfl ((ch_first hs3.sat hc).mono ?_)
 rintro _ w4 ⟨rfl,hs4⟩
 have:=hs4.size
 refine Qm rfl<|Qe rfl<|Qe rfl<|Qa rfl<|Nar rfl Z fun Z=>Qf 0 rfl<|Qc 1 rfl (BD hs4 hb1 rfl)<|Ca rfl ((ch_rest hs4.sat hc).mono ?_)
 rintro _ w5 ⟨qr,rfl,hs5,hcr⟩
 have:=hs5.size
 refine Ca rfl ((ch_first hs5.sat hcr).mono ?_)
 rintro _ w6 ⟨rfl,hs6⟩
 have:=hs6.size
 refine Qm rfl<|Qe rfl<|Qe rfl<|Qa rfl<|Na rfl Z<|cw_seq fun _ hK4=>Ri fun Z=>Qm rfl<|Qm rfl<|as_gh rfl rfl rfl rfl (h_q rfl (q_move rfl) ?_)
 refine as_gh rfl rfl rfl rfl (h_call V rfl ?_)
 refine (th_rank hs6.sat hka).mono ?_
 rintro _ w7 ⟨rfl,hs7⟩
 have:=hs7.size
 refine as_gh rfl rfl rfl rfl (h_q rfl (q_move rfl) ?_)
 refine as_gh rfl rfl rfl rfl (h_call V rfl ?_)
 refine (th_rank hs7.sat hkb).mono ?_
 rintro _ w8 ⟨rfl,hs8⟩
 have:=hs8.size
 refine as_gh rfl rfl rfl rfl (h_q rfl (q_eq rfl rfl) ?_)
 refine Qq rfl (q_pick_t rfl rfl)<|Nx Z ?_
 have hx:=EncB.mono _ _ _ _ hs2.le (EncB.mono _ _ _ _ hs1.le hx)
 have hT:=hT.t hs3 |>.t hs4 |>.t hs5 |>.t hs6 |>.t hs7 |>.t hs8
 have hor:=hor.t hs4 |>.t hs5 |>.t hs6 |>.t hs7 |>.t hs8
 refine cw_cond rfl (fun hc0=>?_) (fun hc0=>?_)
 ·replace hc0:ta.rank=tb.rank:=by have:=of_decide_eq_true hc0; omega
  refine Rv fun Z=>?_
  have hs9:=Step.drew hs8.sat
  have:=hs9.size
  refine Gf 0 1 0 rfl<|Gc 1 3 1 rfl (BD hs9 hb1 rfl)<|Gm 3 11 rfl<|Gc 4 27 1 rfl (BD hs9 hb2 rfl)<|Gm 5 59 rfl<|Gm 6 123 rfl<|Gh 2 127 rfl (Ks [F,T]) (h_call V rfl ?_)
  refine (ch_drop (n:=2) hs9.sat hc (by decide)).mono ?_
  rintro _ w10 ⟨qd,rfl,hs10,hcd⟩
  replace hcd:CRep 381 _ lt (.pointer qd):=hcd
  have:=hs10.size
  have hor:=hor.t hs9 |>.t hs10
  have hT:=hT.t hs9 |>.t hs10
  refine ⟨(by repeat' first | exact trivial | exact BD hs10 hb2 rfl | refine And.intro ?_ ?_),?_⟩
  refine Gh 7 255 rfl (Ks [T]) (h_call V rfl ?_)
  refine (th_skew (x:=x) hs10.sat hx hka hkb (by simp only [RT.sizes] at hz; omega)).mono ?_
  rintro _ w11 ⟨qn,Mn,rfl,hs11,hn⟩
  have hk:=hk.mono' EncB.mono hs11.le
  have hkt:=hkt.mono' EncB.mono hs11.le
  have:=hs11.size
  refine ⟨trivial,?_⟩
  refine Gh 8 511 rfl rfl (h_call V rfl ?_)
  have hcd:=hcd.mono hs11.le
  refine (ch_push hs11.sat hcd (by have:=RT.sizes_length ts; have:=hkt.length; simp only [RT.sizes] at hz; simp; omega)).mono ?_
  rintro _ w12 ⟨qp,Mp,rfl,hs12,hp⟩
  have hk:=hk.mono' EncB.mono hs12.le
  have hkt:=hkt.mono' EncB.mono hs12.le
  have hn:=hn.mono' EncB.mono hs12.le
  have:=hs12.size
  refine ⟨trivial,?_⟩
  refine Gq 9 1023 rfl (fun _=>(q_build (zs:=[(.pointer none)]) (places:=[(0,1)]) (cs:=[_]) V V rfl rfl)) ?_
  have hor:=hor.t hs11 |>.t hs12
  refine G0 10 2047 rfl rfl (h_store hs12.sat hor rfl rfl rfl V rfl rfl rfl fun w13 hs13 hn13=>?_)
  clear hor; have hor:=hn13; clear hn13
  have:=hs13.size
  refine ⟨trivial,?_⟩
  refine Dx Z<|cw_ret ?_
  rw [show sinsert ltB x (ta::tb::ts)=RT.skew ltB x ta tb::ts from if_pos hc0]
  have hT:=hT.t hs11 |>.t hs12 |>.o hs13
  exact ⟨_,(Rc 1 rfl (OD hor rfl) res_nil),_,_,rfl,hT.to (by simp [sinsertC,hc0]),_,hp,treps_cons.2 ⟨_,_,rfl,hn,hkt⟩⟩
 ·replace hc0:¬ ta.rank=tb.rank:=by have:=of_decide_eq_false hc0; omega
  refine cw_skip<|hK4 _ _<|Rv fun Z=>?_
  have hs14:=Step.drew hs8.sat
  have:=hs14.size
  refine Gf 0 1 0 rfl<|Gc 1 3 1 rfl (BD hs14 hb1 rfl)<|Gm 2 7 rfl<|Gc 3 15 1 rfl (BD hs14 hb2 rfl)<|Gh 4 31 rfl (Ks [T,F]) (h_call V rfl ?_)
  refine (th_leaf (x:=x) hs14.sat hx).mono ?_
  rintro _ w15 ⟨qn,Mn,rfl,hs15,hn⟩
  have hk:=hk.mono' EncB.mono hs15.le
  have hkt:=hkt.mono' EncB.mono hs15.le
  have:=hs15.size
  have hor:=hor.t hs14 |>.t hs15
  have hT:=hT.t hs14 |>.t hs15
  have hc:=hc.mono hs15.le
  have hb1:=hs15.le _ _ hb1
  refine ⟨(by repeat' first | exact trivial | exact BD hs15 hb1 rfl | refine And.intro ?_ ?_),?_⟩
  refine Gh 5 63 rfl (Ks [T]) (h_call V rfl ?_)
  refine (ch_push hs15.sat hc (by simp; have:=RT.sizes_length ts; have:=ta.size_pos; have:=tb.size_pos; have:=hkt.length; simp only [RT.sizes] at hz; omega)).mono ?_
  rintro _ w16 ⟨qp,Mp,rfl,hs16,hp⟩
  have hk:=hk.mono' EncB.mono hs16.le
  have hn:=hn.mono' EncB.mono hs16.le
  have:=hs16.size
  refine ⟨trivial,?_⟩
  refine Gq 6 127 rfl (fun _=>(q_build (zs:=[(.pointer none)]) (places:=[(0,1)]) (cs:=[_]) V V rfl rfl)) ?_
  have hor:=hor.t hs16
  refine G0 7 255 rfl rfl (h_store hs16.sat hor rfl rfl rfl V rfl rfl rfl fun w17 hs17 hn17=>?_)
  clear hor; have hor:=hn17; clear hn17
  have:=hs17.size
  refine ⟨trivial,?_⟩
  refine Dx Z<|cw_ret ?_
  rw [show sinsert ltB x (ta::tb::ts)=RT.leaf x::ta::tb::ts from if_neg hc0]
  have hT:=hT.t hs16 |>.o hs17
  exact ⟨_,(Rc 1 rfl (OD hor rfl) res_nil),_,_,rfl,hT.to (by simp [sinsertC,hc0]),_,hp,treps_cons.2 ⟨_,_,rfl,hn,hk⟩⟩
theorem sh_insert {x:Bt} {qx:Option Addr} {ts:List (RT Bt)} {q:Option Addr} (hs:Sat M w) (hx:EncB M x [.pointer qx]) (h:FRep 381 383 1 EncB M ts q) (hz:RT.sizes ts<1000000000):
  Dz 253 #[.agg #[.pointer q],mval mb, .agg #[.pointer qx]] w (fun v w'=>∃ q M',v = .agg #[.pointer q]∧StepC Nope (sinsertC ts) M w M' w'∧FRep 381 383 1 EncB M' (sinsert ltB x ts) q):=by
 match ts,h,hz with
 | [],h,_=>obtain rfl:=frep_nil.1 h; exact sh_insert_n hs hx
 | [ta],h,_=>exact sh_insert_1 hs hx h
 | ta::tb::ts,h,hz=>exact sh_insert_2 hs hx h hz
theorem sh_min {ts:List (RT Bt)} {t:RT Bt} {q:Option Addr} (hs:Sat M w) (h:FRep 381 383 1 EncB M ts q) (ht:ts[leastN ltB (ts.map RT.root) (ts.length-1)]? = some t) (hz:RT.sizes ts≤1000000000):
  Dz 254 #[.agg #[.pointer q],mval mb] w (fun v w'=>∃ qx M',v = .tuple #[.agg #[.pointer qx], .bool true]∧StepC Nope (ts.length-1) M w M' w'∧EncB M' t.root [.pointer qx]):=by
 have hT:=hs.r
 obtain ⟨l,hc,hk,hll,hlz⟩:=h.len
 obtain ⟨kq,hkq,hkr⟩:=hk.get ht
 have hpos:0<ts.length:=Nat.lt_of_le_of_lt (Nat.zero_le _) (List.getElem?_eq_some_iff.1 ht).1
 have hbl:=leastN_le ltB (ts.map RT.root) (ts.length-1)
 refine Fe Tryz.func254 [.cell 4 172, .tmp 5] rfl<|Ri fun Z=>Bm hs rfl fun b1 M1 w1 hs1 hb1 e1=>?_
 have hk:=hk.mono' EncB.mono hs1.le
 have hkr:=hkr.mono' EncB.mono hs1.le
 have:=hs1.size
 have hT:=hT.t hs1
 have:=hT.size
 refine Al (.agg #[(.pointer none)]) hs1.sat rfl fun br w2 hs2 hor er=>?_
 have:=hs2.size
 have:=hor.1.lt
 refine Nar rfl Z fun Z=>Qf 0 rfl<|Qc 1 rfl (BD hs2 hb1 rfl) ?_
 have hc:=hc.mono hs1.le
 refine Ca rfl ((ch_all hs2.sat hc O).mono ?_)
 rintro av w3 ⟨Ma,hs3,hba,hfa⟩
 have hk:=hk.mono' EncB.mono hs3.le
 have hkr:=hkr.mono' EncB.mono hs3.le
 have:=hs3.size
 rw [hll] at hba
 obtain ⟨aa,ac,rfl,_,_⟩:=hba.slice
 obtain ⟨g,o,rfl⟩:=hba.rd.there O
 refine Na rfl Z<|cw_seq fun _ hK3=>Ri fun Z=>Qm rfl<|Qq rfl (ql rfl)<|Qq rfl (qEF rfl)<|Nx Z<|cw_false rfl<|cw_skip<|hK3 _ _<|Ri fun Z=>Qm rfl<|Qm rfl<|Qm rfl<|Ca rfl ((sh_least hs3.sat hba.rds hk O).mono ?_)
 rintro _ w4 ⟨rfl,hs4⟩
 have hkr:=hkr.mono' EncB.mono hs4.le
 have:=hs4.size
 refine Qq rfl (qi 360 1 rfl) ?_
 have hba:=hba.t hs4
 refine Q1 rfl (Buf.cell hba (u:= .pointer kq) (j:=((leastN ltB (ts.map RT.root) (ts.length-1):Nat):Int).toNat*1) (by rw [show ((leastN ltB (ts.map RT.root) (ts.length-1):Nat):Int).toNat*1=leastN ltB (ts.map RT.root) (ts.length-1) from by omega]; simp [ptrs,hkq]))<|Ca rfl ((th_root hs4.sat hkr).mono ?_)
 rintro _ w5 ⟨qx,rfl,hs5,hxr⟩
 have:=hs5.size
 refine Qe rfl<|Qe rfl ?_
 have hor:=hor.t hs3 |>.t hs4 |>.t hs5
 refine St hs5.sat hor rfl fun w6 hs6 hor=>?_
 have:=hs6.size
 refine Na rfl Z<|cw_ret ?_
 have hT:=hT.t hs2 |>.t hs3 |>.t hs4 |>.t hs5 |>.o hs6
 exact ⟨_,(Rc 1 rfl (OD hor rfl) (Rt rfl)),qx,_,rfl,hT.to O,hxr⟩
end Go.Proofs.YtnnldppehojffaaGreat
/- Skew binomial heaps of heaps, part 2. -/
namespace Go.Proofs.YtnnldppehojffaaGreat
open Go Go.Eng
variable {mb:Option Nat} {w:World} {M:Mem mb}
theorem sh_put {t0:RT Bt} {ts0:List (RT Bt)} {qt0:Option Addr} {v0:Value} (hs:Sat M w) (ht:TRep 383 1 EncB M t0 qt0) (h:SRow 383 1 EncB M w ts0 v0) (hz:t0.size+RT.sizes ts0≤1000000000):
  Dz 285 #[mval mb, .pointer qt0,v0] w (fun v w'=>∃ M',StepC Nope (bputC ltB t0 ts0) M w M' w'∧SRow 383 1 EncB M' w' (bput ltB t0 ts0) v):=by
 have hT:=hs.r
 obtain ⟨sa,sc,l,rfl,hr,hk⟩:=h
 refine Fe Tryz.func285 [.tmp 6] rfl<|Ri fun Z=>Na rfl Z<|cw_seq fun _ hK2=>cw_block<|cw_loop (fun mm l1 w1=>∃ (t:RT Bt) (ts:List (RT Bt)) (l:List (Option Addr)) (qt sa:Option Addr) (sc c:Nat) (M1:Mem mb),bputC ltB t0 ts0=c+bputC ltB t ts∧mm=ts.length∧bput ltB t ts=bput ltB t0 ts0∧t.size+RT.sizes ts≤1000000000∧l1=[(0,mval mb),(1, .pointer qt),(2, .slice sa ts.length sc)]∧StepC Nope c M w M1 w1∧Rds M1 w1 1 (.slice sa ts.length sc) ts.length (ptrs l)∧TReps 383 1 EncB M1 ts l∧TRep 383 1 EncB M1 t qt) (ts0.length) [(0,mval mb),(1, .pointer qt0),(2, .slice sa ts0.length sc)] (.cons rfl (.cons rfl (.cons rfl (.nil _)))) ?_ ?_
 ·exact ⟨t0,ts0,l,qt0,sa,sc,0,M,(Nat.zero_add _).symm,rfl,rfl,hz,rfl,hT,hr,hk,ht⟩
 clear hT hr hk ht hz
 rintro mm l1 w1 ⟨t,ts,l,qt,sa,sc,c,M1,hcst,rfl,hmod,hz,rfl,hT,hr,hk,ht⟩
 have hln:=hk.length
 have hlz:=RT.sizes_length ts
 have hcap:ts.length≤sc:=by
  obtain ⟨_,_,h,h2,_⟩:=hr.slice hT.sat
  cases h; exact h2
 refine cw_seq fun _ hK3=>?_
 rcases ts with _ | ⟨f,r⟩
 ·obtain rfl:=treps_nil.1 hk
  have hlc:([]:List (RT Bt)).length=0:=rfl
  refine Rv fun Z=>?_
  have hs1:=Step.drew hT.sat
  have:=hs1.size
  refine Gm 0 1 rfl<|Gq 1 3 rfl (fun _=>ql rfl)<|Gq 2 7 rfl (fun _=>qGF rfl)<|Gm 3 15 rfl<|Dgs 4 31 rfl V rfl rfl<|Dgs 5 63 rfl V rfl rfl<|Dgs 6 127 rfl V rfl rfl<|Dgs 7 255 rfl V rfl rfl<|Dgs 8 511 rfl V rfl rfl<|Dgs 9 1023 rfl V rfl rfl<|Dgs 10 2047 rfl V rfl rfl<|Gq 11 4095 rfl (fun _=>q_pick_f rfl rfl)<|Dx Z<|cw_false rfl<|cw_exit<|hK2 _ _<|Ri fun Z=>Qm rfl ?_
  have hT:=hT.t hs1
  have hTz:=hT.size
  refine as_h rfl (h_buildO (e:=360) (size:=1) (zs:=[(.pointer none)]) (cs:=[_]) V V V rfl hs1.sat rfl rfl fun bB w2 hs2 hoB eB=>?_)
  have:=hs2.size
  refine Qm rfl ?_
  have hbb:=Own.buf hoB (n:=1) (size:=1) rfl (by decide)
  have hr:=hr.step hs1 |>.step hs2
  refine as_h rfl (h_append (e:=360) (size:=1) (bytes:=8) V hs2.sat hbb (hr.now hs2.sat) rfl rfl (ptrs_one _) O rfl fun sv w3 hs3 hbu hor=>?_)
  have hT:=hT.t hs2
  have hT:=hT.trans hs3 (fun k hk h=>by have h2:bB=k:=Option.some.inj h; omega)
  have hbs:=hbu.rds
  have hk:=hk.mono' EncB.mono hs3.le
  have ht:=ht.mono' EncB.mono hs3.le
  obtain ⟨sva,svc,rfl,_,_⟩:=hbu.slice
  refine Na rfl Z<|cw_ret ?_
  rw [show bput ltB t0 ts0=[t] from by rw [← hmod]; rfl]
  exact ⟨_,Rt rfl,_,hT.to (by rw [hcst,bputC]),sva,svc,_,congrArg (fun k=>Value.slice sva k svc) (by simp <;> omega),hbs.cast (congrArg (fun k=>Value.slice sva k svc) (by simp <;> omega)) (by simp <;> omega) rfl,treps_cons.2 ⟨_,_,rfl,ht,hk⟩⟩
 ·obtain ⟨fq,lr,rfl,hf,hk2⟩:=treps_cons.1 hk
  obtain ⟨g,o,rfl⟩:=(hr.now hT.sat).there (by simp)
  have hlc:(f::r).length=r.length+1:=rfl
  refine Rv fun Z=>?_
  have hs4:=Step.drew hT.sat
  have:=hs4.size
  refine Gm 0 1 rfl<|Gq 1 3 rfl (fun _=>ql rfl)<|Gq 2 7 rfl (fun _=>qGT rfl)<|Gm 3 15 rfl<|Dgq 4 31 rfl V rfl rfl (fun _=>q_move rfl)<|Dgq 6 95 rfl V rfl rfl (fun _=>q_move rfl)<|Dgq 7 223 rfl V rfl rfl (fun _=>qi 360 1 rfl) ?_
  have hr:=hr.step hs4
  have hT:=hT.t hs4
  refine at_gq (i:=8) (li:=lb 12 479) (cellIs _ _ _) rfl V rfl rfl rfl rfl (fun _ h=>q_load1 V rfl h) ((hr _ _ _ (Step.refl _ hT.sat)).cell (u:= .pointer fq) (j:=(0:Int).toNat*1) rfl) V<|Dgh 5 511 rfl V rfl rfl (keep_sift (bs:=[F]) V) (h_call V rfl ?_)
  refine (th_rank hs4.sat ht).mono ?_
  rintro _ w5 ⟨rfl,hs5⟩
  have:=hs5.size
  have hr:=hr.step hs5
  have hT:=hT.t hs5
  refine ⟨(by repeat' first | exact trivial | exact ((hr _ _ _ (Step.refl _ hT.sat)).cell (u:= .pointer fq) (j:=(0:Int).toNat*1) rfl) | refine And.intro ?_ ?_),?_⟩
  refine Dgh 9 1023 rfl V rfl rfl (keep_sift (bs:=[T]) V) (h_call V rfl ?_)
  refine (th_rank hs5.sat hf).mono ?_
  rintro _ w6 ⟨rfl,hs6⟩
  have:=hs6.size
  refine ⟨trivial,?_⟩
  refine Dgq 10 2047 rfl V rfl rfl (fun _=>q_ge rfl rfl)<|Gq 11 4095 rfl (fun _=>q_pick_t rfl rfl)<|Dx Z ?_
  have hr:=hr.step hs6
  have hT:=hT.t hs6
  refine cw_cond rfl (fun hc0=>?_) (fun hc0=>?_)
  ·skip
   refine cw_skip<|hK3 _ _<|cw_block<|cw_drawn V V V rfl rfl fun K7 hK7=>?_
   have hs7:=Step.drew hs6.sat
   have:=hs7.size
   refine Gm 0 1 rfl<|Gm 1 3 rfl<|Gm 2 7 rfl<|Gq 3 15 rfl (fun _=>qi 360 1 rfl) ?_
   have hr:=hr.step hs7
   have hT:=hT.t hs7
   refine G1 4 31 rfl ((hr _ _ _ (Step.refl _ hT.sat)).cell (u:= .pointer fq) (j:=(0:Int).toNat*1) rfl)<|Gm 6 95 rfl<|Gq 7 223 rfl (fun _=>(q_slice (e:=360) (size:=1) (k':= .i64) V V rfl rfl rfl O O O))<|Gh 5 255 rfl (Ks [T]) (h_call V rfl ?_)
   refine (th_link hs7.sat ht hf (by simp only [RT.sizes] at hz; omega)).mono ?_
   rintro _ w8 ⟨qn,Mn,rfl,hs8,hn⟩
   have hk:=hk.mono' EncB.mono hs8.le
   have ht:=ht.mono' EncB.mono hs8.le
   have hk2:=hk2.mono' EncB.mono hs8.le
   have:=hs8.size
   refine ⟨trivial,?_⟩
   refine Ga 8 511 rfl<|Ga 9 1023 rfl<|Dd V (hK7 _ _ ?_)
   have hr:=hr.step hs8
   have hT:=hT.t hs8
   refine ⟨_,_,?_,(.cons rfl (.cons rfl (.cons rfl (.nil _)))),_,r,lr,_,_,_,_,_,?_,rfl,?_,?_,rfl,hT,hr.tail (by simpa using hln),hk2,hn⟩
   ·simp
   ·rw [hcst,bputC,if_neg (by simpa using hc0)]; omega
   ·rw [← hmod]
    conv=>rhs; unfold bput
    rw [if_neg (by simpa using hc0)]
   ·rw [RT.link_size]; simp only [RT.sizes] at hz; omega
  ·skip
   refine cw_exit<|hK2 _ _<|Ri fun Z=>Qm rfl ?_
   have hTz:=hT.size
   refine as_h rfl (h_buildO (e:=360) (size:=1) (zs:=[(.pointer none)]) (cs:=[_]) V V V rfl hs6.sat rfl rfl fun bB w9 hs9 hoB eB=>?_)
   have:=hs9.size
   refine Qm rfl ?_
   have hbb:=Own.buf hoB (n:=1) (size:=1) rfl (by decide)
   have hr:=hr.step hs9
   refine as_h rfl (h_append (e:=360) (size:=1) (bytes:=8) V hs9.sat hbb (hr.now hs9.sat) rfl rfl (ptrs_one _) O rfl fun sv w10 hs10 hbu hor=>?_)
   have hT:=hT.t hs9
   have hT:=hT.trans hs10 (fun k hk h=>by have h2:bB=k:=Option.some.inj h; omega)
   have hbs:=hbu.rds
   have hk:=hk.mono' EncB.mono hs10.le
   have ht:=ht.mono' EncB.mono hs10.le
   obtain ⟨sva,svc,rfl,_,_⟩:=hbu.slice
   refine Na rfl Z<|cw_ret ?_
   rw [show bput ltB t0 ts0=t::f::r from by rw [← hmod]; unfold bput; rw [if_pos (by simpa using hc0)]]
   exact ⟨_,Rt rfl,_,hT.to (by rw [hcst,bputC,if_pos (by simpa using hc0)]),sva,svc,_,congrArg (fun k=>Value.slice sva k svc) (by simp <;> omega),hbs.cast (congrArg (fun k=>Value.slice sva k svc) (by simp <;> omega)) (by simp <;> omega) rfl,treps_cons.2 ⟨_,_,rfl,ht,hk⟩⟩
theorem sh_level_n {sa:Option Addr} {sc:Nat} (hs:Sat M w):
  Dz 271 #[mval mb, .slice sa (0:Nat) sc] w (fun v w'=>∃ M',StepC Nope (0) M w M' w'∧SRow 383 1 EncB M' w' ([]:List (RT Bt)) v):=by
 have hT:=hs.r
 refine Fe Tryz.func271 [.tmp 4] rfl<|Ri fun Z=>Na rfl Z<|cw_seq fun _ hK2=>Ri fun Z=>Qm rfl<|Qq rfl (ql rfl)<|Qq rfl (q_eqT rfl rfl (by simp))<|Nx Z<|cw_true rfl<|Ri fun Z=>Na rfl Z<|cw_ret ?_
 exact ⟨_,Rt rfl,M,hT,srow_nil _ _ _ _ (fun _=>rfl)⟩
theorem sh_level_c {f:RT Bt} {r:List (RT Bt)} {v0:Value} (hs:Sat M w) (h:SRow 383 1 EncB M w (f::r) v0) (hz:RT.sizes (f::r)≤1000000000):
  Dz 271 #[mval mb,v0] w (fun v w'=>∃ M',StepC Nope (bputC ltB f r) M w M' w'∧SRow 383 1 EncB M' w' (bput ltB f r) v):=by
 have hT:=hs.r
 obtain ⟨sa,sc,l,rfl,hr,hk⟩:=h
 have hln:=hk.length
 have hlz:=RT.sizes_length (f::r)
 have hcaphr:(f::r).length≤sc:=by
  obtain ⟨_,_,h,h2,_⟩:=hr.slice hs
  cases h; exact h2
 obtain ⟨fq,lr,rfl,hf,hk2⟩:=treps_cons.1 hk
 obtain ⟨g,o,rfl⟩:=(hr.now hs).there (by simp)
 have hlc:(f::r).length=r.length+1:=rfl
 refine Fe Tryz.func271 [.tmp 4] rfl<|Ri fun Z=>Na rfl Z<|cw_seq fun _ hK2=>Ri fun Z=>Qm rfl<|Qq rfl (ql rfl)<|Qq rfl (qEF rfl)<|Nx Z<|cw_false rfl<|cw_skip<|hK2 _ _<|Rv fun Z=>?_
 have hs1:=Step.drew hs
 have:=hs1.size
 refine Gm 0 1 rfl<|Gm 1 3 rfl<|Gq 2 7 rfl (fun _=>qi 360 1 rfl) ?_
 have hr:=hr.step hs1
 have hT:=hT.t hs1
 refine G1 3 15 rfl ((hr _ _ _ (Step.refl _ hT.sat)).cell (u:= .pointer fq) (j:=(0:Int).toNat*1) rfl)<|Gm 4 31 rfl<|Gq 5 63 rfl (fun _=>(q_slice (e:=360) (size:=1) (k':= .i64) V V rfl rfl rfl O O O))<|Gh 6 127 rfl (Ks [T]) (h_call V rfl ?_)
 refine (sh_put hs1.sat hf ⟨_,_,_,rfl,hr.tail (by simpa using hln),hk2⟩ (by simp only [RT.sizes] at hz; omega)).mono ?_
 rintro v w2 ⟨Mn,hs2,hn⟩
 obtain ⟨va,vc,vl,rfl,hv1,hv2⟩:=hn
 have:=hs2.size
 refine ⟨trivial,?_⟩
 refine Ga 7 255 rfl<|Dx Z<|cw_ret ?_
 have hT:=hT.t hs2
 exact ⟨_,Rt rfl,_,hT.to O,_,_,_,rfl,hv1,hv2⟩
theorem sh_level {ts:List (RT Bt)} {v0:Value} (hs:Sat M w) (h:SRow 383 1 EncB M w ts v0) (hz:RT.sizes ts≤1000000000):Dz 271 #[mval mb,v0] w (fun v w'=>∃ M',StepC Nope (slevelC ltB ts) M w M' w'∧SRow 383 1 EncB M' w' (slevel ltB ts) v):=by
 cases ts with
 | nil=>obtain ⟨sa,sc,l,rfl,_,_⟩:=h; exact sh_level_n hs
 | cons f r=>exact sh_level_c hs h hz
theorem ch_of {l:List (Option Addr)} {sa:Option Addr} {sc:Nat} (hs:Sat M w) (hr:Rds M w 1 (.slice sa l.length sc) l.length (ptrs l)) (hz:l.length≤1000000000):
  Dz 273 #[.slice sa l.length sc] w (fun v w'=>∃ q M',v = .agg #[.pointer q]∧Step Nope M w M' w'∧CRep 381 M' l (.pointer q)):=by
 have hT:=hs.r
 have hr0:=hr
 refine Fe Tryz.func273 [.cell 2 343] rfl<|Ri fun Z=>?_
 have:=hT.size
 refine Al (.agg #[(.pointer none)]) hs rfl fun br w1 hs1 hor er=>?_
 have hz1:=hs1.size
 have:=hor.1.lt
 refine Nr Z fun Z=>Qq rfl (q_build (zs:=[(.pointer none)]) (places:=[(0,1)]) (cs:=[_]) V V rfl rfl) ?_
 have hT:=hT.t hs1
 have:=hT.size
 refine Al (.agg #[(.pointer none)]) hs1.sat rfl fun bo w2 hs2 hoo eo=>?_
 have hz2:=hs2.size
 have:=hoo.1.lt
 refine St hs2.sat hoo rfl fun w3 hs3 hoo=>?_
 have:=hs3.size
 refine Nx Z<|cw_seq fun _ hK3=>Ri fun Z=>Qm rfl<|Qq rfl (ql rfl)<|Qq rfl (qS rfl)<|Na rfl Z<|cw_block ?_
 have hor:=hor.t hs2 |>.u hs3
 have hT:=hT.t hs2 |>.o hs3
 refine cw_loop (fun mm l1 w1=>∃ (z:Int) (q:Option Addr) (M1:Mem mb),mm=(z+1).toNat∧ -1≤z∧z<l.length∧l1=[(0, .slice sa l.length sc),(2, .pointer (some ⟨br,0,none⟩)),(3, .pointer (some ⟨bo,0,none⟩)),(4, .int .i64 z)]∧Step Nope M w M1 w1∧CRep 381 M1 (l.drop (z+1).toNat) (.pointer q)∧Own w1 M1 bo [.pointer q] 343∧Own w1 M1 br [.pointer none] 343) (l.length) [(0, .slice sa l.length sc),(2, .pointer (some ⟨br,0,none⟩)),(3, .pointer (some ⟨bo,0,none⟩)),(4, .int .i64 ((l.length:Int)-1))] (.cons rfl (.cons rfl (.cons rfl (.cons rfl (.nil _))))) ?_ ?_
 ·refine ⟨(l.length:Int)-1,none,M,by omega,by omega,by omega,rfl,hT,?_,hoo,hor⟩
  rw [List.drop_eq_nil_of_le O]
  rfl
 have hbw:w.heap.size≤bo∧w.heap.size≤br∧br≠bo:=by omega
 clear hT hoo hor
 rintro mm l1 w1 ⟨z,q,M1,rfl,hz1,hz2,rfl,hT,hcc,hoo,hor⟩
 refine cw_seq fun _ hK5=>Ri fun Z=>Qm rfl<|Qq rfl (q_ge rfl rfl)<|Nx Z<|cw_cond rfl (fun hc0=>?_) (fun hc0=>?_)
 ·have hc0:=of_decide_eq_true hc0
  obtain ⟨x,hx⟩:∃ x,l[z.toNat]? = some x:=⟨l[z.toNat]'O,by simp⟩
  obtain ⟨g,o,rfl⟩:=(hr0 _ _ _ hT).there O
  refine cw_skip<|hK5 _ _<|cw_seq fun _ hK7=>cw_block<|cw_drawn V V V rfl rfl fun K8 hK8=>?_
  have hs4:=Step.drew hT.sat
  have:=hs4.size
  have hoo:=hoo.t hs4
  refine Gc 0 1 1 rfl (OD hoo rfl)<|Gm 1 3 rfl<|Gm 2 7 rfl<|Gq 3 15 rfl (fun _=>qi 360 1 rfl) ?_
  have hT:=hT.t hs4
  refine G1 4 31 rfl ((hr0 _ _ _ hT).cell (u:= .pointer x) (j:=z.toNat*1) (by simp [ptrs,hx]))<|Gh 5 63 rfl (Ks [T,T]) (h_call V rfl ?_)
  refine (ch_push hs4.sat hcc (by rw [List.length_drop]; omega)).mono ?_
  rintro _ w5 ⟨qp,Mp,rfl,hs5,hp⟩
  have:=hs5.size
  refine ⟨trivial,?_⟩
  have hoo:=hoo.t hs5
  refine G0 6 127 rfl rfl (h_store hs5.sat hoo rfl rfl rfl V rfl rfl rfl fun w6 hs6 hn6=>?_)
  clear hoo; have hoo:=hn6; clear hn6
  have:=hs6.size
  refine ⟨trivial,?_⟩
  refine Dd V (hK8 _ _ ?_)
  refine hK7 _ _<|cw_region fun _ Z=>Qm rfl<|Qq rfl (qS rfl)<|Qa rfl<|as_nil (Z _ _ ?_)
  have hor:=hor.t hs4 |>.t hs5 |>.u hs6
  have hcc:=hcc.mono hs5.le
  have hT:=hT.t hs5 |>.o hs6
  refine ⟨_,_,?_,(.cons rfl (.cons rfl (.cons rfl (.cons rfl (.nil _))))),_,_,_,rfl,?_,?_,rfl,hT,?_,hoo,hor⟩
  ·omega
  ·omega
  ·omega
  ·rw [show (z-1+1).toNat=z.toNat by omega,List.drop_eq_getElem_cons (i:=z.toNat) O,show l[z.toNat]=x from by rw [List.getElem?_eq_getElem O] at hx; exact Option.some.inj hx,show z.toNat+1=(z+1).toNat by omega]
   exact hp
 ·have hc0:=of_decide_eq_false hc0
  refine cw_exit<|hK3 _ _<|Ri fun Z=>Qc 1 rfl (OD hoo rfl)<|St hT.sat hor rfl fun w7 hs7 hor=>?_
  have:=hs7.size
  refine Nx Z<|cw_ret ?_
  rw [show (z+1).toNat=0 by omega,List.drop_zero] at hcc
  have hT:=hT.o hs7
  exact ⟨_,(Rc 1 rfl (OD hor rfl) res_nil),_,_,rfl,hT,hcc⟩
def SMeldh (mb:Option Nat) (k:Nat):Prop:=∀ (w:World) (M:Mem mb) (a b:List (RT Bt)) (va vb:Value),Sat M w→SRow 383 1 EncB M w a va→SRow 383 1 EncB M w b vb→a.length+b.length<k→RT.sizes a+RT.sizes b≤1000000000→
  Dz 274 #[mval mb,va,vb] w (fun v w'=>∃ M',StepC Nope (bmeldC ltB a b) M w M' w'∧SRow 383 1 EncB M' w' (bmeld ltB a b) v)
theorem sh_meld_a {b:List (RT Bt)} {vb:Value} {sa:Option Addr} {sc:Nat} (hs:Sat M w) (hb:SRow 383 1 EncB M w b vb):
  Dz 274 #[mval mb, .slice sa (0:Nat) sc,vb] w (fun v w'=>∃ M',StepC Nope (0) M w M' w'∧SRow 383 1 EncB M' w' b v):=by
 have hT:=hs.r
 obtain ⟨ba,bc,lb,rfl,h1,h2⟩:=hb
 have hb:SRow 383 1 EncB M w b (.slice ba b.length bc):=⟨ba,bc,lb,rfl,h1,h2⟩
 refine Fe Tryz.func274 [.tmp 6] rfl<|Ri fun Z=>Na rfl Z<|cw_seq fun _ hK2=>cw_block<|Ri fun Z=>Qm rfl<|Qq rfl (ql rfl)<|Qq rfl (qET rfl)<|Na rfl Z<|cw_true rfl<|Ri fun Z=>Qm rfl<|Na rfl Z<|cw_ret ?_
 exact ⟨_,Rt rfl,_,hT,hb⟩
theorem sh_meld_b {f:RT Bt} {a:List (RT Bt)} {va:Value} {sb:Option Addr} {sc:Nat} (hs:Sat M w) (ha:SRow 383 1 EncB M w (f::a) va):
  Dz 274 #[mval mb,va, .slice sb (0:Nat) sc] w (fun v w'=>∃ M',StepC Nope (0) M w M' w'∧SRow 383 1 EncB M' w' (f::a) v):=by
 have hT:=hs.r
 obtain ⟨ba,bc,lb,rfl,h1,h2⟩:=ha
 have ha:SRow 383 1 EncB M w (f::a) (.slice ba (f::a).length bc):=⟨ba,bc,lb,rfl,h1,h2⟩
 have hlc:(f::a).length=a.length+1:=rfl
 refine Fe Tryz.func274 [.tmp 6] rfl<|Ri fun Z=>Na rfl Z<|cw_seq fun _ hK2=>cw_block<|Ri fun Z=>Qm rfl<|Qq rfl (ql rfl)<|Qq rfl (qEF rfl)<|Na rfl Z<|cw_false rfl<|Ri fun Z=>Qm rfl<|Qq rfl (ql rfl)<|Qq rfl (qET rfl)<|Na rfl Z<|cw_true rfl<|Ri fun Z=>Qm rfl<|Na rfl Z<|cw_ret ?_
 exact ⟨_,Rt rfl,_,hT,ha⟩
theorem sh_meld_c {w:World} {M:Mem mb} {f g:RT Bt} {a b:List (RT Bt)} {va vb:Value} {k:Nat} (ih:SMeldh mb k) (hs:Sat M w) (ha:SRow 383 1 EncB M w (f::a) va) (hb:SRow 383 1 EncB M w (g::b) vb) (hk:(f::a).length+(g::b).length<k+1) (hz:RT.sizes (f::a)+RT.sizes (g::b)≤1000000000):
  Dz 274 #[mval mb,va,vb] w (fun v w'=>∃ M',StepC Nope (bmeldC ltB (f::a) (g::b)) M w M' w'∧SRow 383 1 EncB M' w' (bmeld ltB (f::a) (g::b)) v):=by
 have hT:=hs.r
 obtain ⟨sa,sc,l,rfl,hr,hka⟩:=ha
 obtain ⟨sb,sd,lb,rfl,hrb,hkb⟩:=hb
 have hln:=hka.length
 have hlnb:=hkb.length
 have hcaphr:(f::a).length≤sc:=by
  obtain ⟨_,_,h,h2,_⟩:=hr.slice hs
  cases h; exact h2
 have hcaphrb:(g::b).length≤sd:=by
  obtain ⟨_,_,h,h2,_⟩:=hrb.slice hs
  cases h; exact h2
 obtain ⟨fq,lr,rfl,hf,hk2⟩:=treps_cons.1 hka
 obtain ⟨gq,lbr,rfl,hg,hkb2⟩:=treps_cons.1 hkb
 obtain ⟨g1,o,rfl⟩:=(hr.now hs).there (by simp)
 obtain ⟨g2,o2,rfl⟩:=(hrb.now hs).there (by simp)
 have hlc:(f::a).length=a.length+1:=rfl
 have hlcb:(g::b).length=b.length+1:=rfl
 have hfp:=f.size_pos
 have hgp:=g.size_pos
 have hmf:=RT.sizes_cons f a
 have hmg:=RT.sizes_cons g b
 refine Fe Tryz.func274 [.tmp 6] rfl<|Ri fun Z=>Na rfl Z<|cw_seq fun _ hK2=>cw_block<|Ri fun Z=>Qm rfl<|Qq rfl (ql rfl)<|Qq rfl (qEF rfl)<|Na rfl Z<|cw_false rfl<|Ri fun Z=>Qm rfl<|Qq rfl (ql rfl)<|Qq rfl (qEF rfl)<|Na rfl Z<|cw_false rfl<|Rv fun Z=>?_
 have hs1:=Step.drew hs
 have:=hs1.size
 refine Gm 0 1 rfl<|Gq 1 3 rfl (fun _=>qi 360 1 rfl) ?_
 have hr:=hr.step hs1
 have hT:=hT.t hs1
 refine G1 2 7 rfl ((hr _ _ _ (Step.refl _ hT.sat)).cell (u:= .pointer fq) (j:=(0:Int).toNat*1) rfl)<|Gm 4 23 rfl<|Gq 5 55 rfl (fun _=>qi 360 1 rfl) ?_
 have hrb:=hrb.step hs1
 refine G1 6 119 rfl ((hrb _ _ _ (Step.refl _ hT.sat)).cell (u:= .pointer gq) (j:=(0:Int).toNat*1) rfl)<|Gh 3 127 rfl (Ks [F,T]) (h_call V rfl ?_)
 refine (th_rank hs1.sat hf).mono ?_
 rintro _ w2 ⟨rfl,hs2⟩
 have:=hs2.size
 have hr:=hr.step hs2
 have hrb:=hrb.step hs2
 have hT:=hT.t hs2
 refine ⟨(by repeat' first | exact trivial | exact ((hrb _ _ _ (Step.refl _ hT.sat)).cell (u:= .pointer gq) (j:=(0:Int).toNat*1) rfl) | refine And.intro ?_ ?_),?_⟩
 refine Gh 7 255 rfl (Ks [T]) (h_call V rfl ?_)
 refine (th_rank hs2.sat hg).mono ?_
 rintro _ w3 ⟨rfl,hs3⟩
 have:=hs3.size
 refine ⟨trivial,?_⟩
 refine Gq 8 511 rfl (fun _=>q_lt rfl rfl)<|Ga 9 1023 rfl<|Dx Z ?_
 have hr:=hr.step hs3
 have hrb:=hrb.step hs3
 have hT:=hT.t hs3
 refine cw_cond rfl (fun hc2=>?_) (fun hc2=>?_)
 ·replace hc2:f.rank<g.rank:=by have:=of_decide_eq_true hc2; omega
  refine cw_rdS (fun l2 w2=>∃ v,l2=[(6,v)]∧∃ M2,StepC Nope (bmeldC ltB (f::a) (g::b)) M w M2 w2∧SRow 383 1 EncB M2 w2 (bmeld ltB (f::a) (g::b)) v) V V V rfl rfl ?_ ?_
  ·have hs4:=Step.drew hs3.sat
   have:=hs4.size
   refine Gm 0 1 rfl<|Gq 1 3 rfl (fun _=>qi 360 1 rfl) ?_
   have hr:=hr.step hs4
   have hT:=hT.t hs4
   refine G1 2 7 rfl ((hr _ _ _ (Step.refl _ hT.sat)).cell (u:= .pointer fq) (j:=(0:Int).toNat*1) rfl)<|Gm 4 23 rfl<|Gm 5 55 rfl<|Gq 6 119 rfl (fun _=>(q_slice (e:=360) (size:=1) (k':= .i64) V V rfl rfl rfl O O O))<|Gm 7 247 rfl ?_
   have hrb:=hrb.step hs4
   refine at_two (i:=3) (j:=8) V ?_ ?_
   ·have hTz:=hT.size
    refine Gi 3 255 rfl (Ks [T]) (h_buildO (e:=360) (size:=1) (zs:=[(.pointer none)]) (cs:=[_]) V V V rfl hs4.sat rfl rfl fun bB w5 hs5 hoB eB=>?_)
    have:=hs5.size
    refine ⟨trivial,?_⟩
    refine Gh 8 511 rfl rfl (h_call V rfl ?_)
    have hml:=RT.sizes_length (bmeld ltB a (g::b))
    have hms:=bmeld_size ltB a (g::b)
    have hmf:=RT.sizes_cons f a
    have hmg:=RT.sizes_cons g b
    have hr:=hr.step hs5
    have hrb:=hrb.step hs5
    refine (ih _ _ a (g::b) _ _ hs5.sat ⟨_,_,_,rfl,hr.tail (by simpa using hln),hk2⟩ ⟨_,_,_,rfl,hrb,hkb⟩ O O).mono ?_
    rintro v w6 ⟨Mn,hs6,hn⟩
    obtain ⟨va,vc,vl,rfl,hv1,hv2⟩:=hn
    have hka:=hka.mono' EncB.mono hs6.le
    have hk2:=hk2.mono' EncB.mono hs6.le
    have hf:=hf.mono' EncB.mono hs6.le
    have hkb:=hkb.mono' EncB.mono hs6.le
    have hkb2:=hkb2.mono' EncB.mono hs6.le
    have hg:=hg.mono' EncB.mono hs6.le
    have:=hs6.size
    refine ⟨trivial,?_⟩
    have hoB:=hoB.t hs6
    have hbb:=Own.buf hoB (n:=1) (size:=1) rfl (by decide)
    refine Gh 9 1023 rfl rfl (h_append (e:=360) (size:=1) (bytes:=8) V hs6.sat hbb (hv1.now hs6.sat) rfl rfl (ptrs_one _) O rfl fun sv w7 hs7 hbu hor=>?_)
    have hT:=hT.t hs5 |>.t hs6
    have hT:=hT.trans hs7 (fun k hk h=>by have h2:bB=k:=Option.some.inj h; omega)
    have hbs:=hbu.rds
    have hka:=hka.mono' EncB.mono hs7.le
    have hk2:=hk2.mono' EncB.mono hs7.le
    have hf:=hf.mono' EncB.mono hs7.le
    have hkb:=hkb.mono' EncB.mono hs7.le
    have hkb2:=hkb2.mono' EncB.mono hs7.le
    have hg:=hg.mono' EncB.mono hs7.le
    have hv2:=hv2.mono' EncB.mono hs7.le
    obtain ⟨sva,svc,rfl,_,_⟩:=hbu.slice
    refine ⟨trivial,?_⟩
    refine Ga 10 2047 rfl<|Dd V<|⟨_,(.cons rfl (.nil _)),_,rfl,_,hT.to (by rw [bmeldC,if_pos hc2]; omega),?_⟩
    rw [show bmeld ltB (f::a) (g::b)=f::bmeld ltB a (g::b) from by rw [bmeld,if_pos hc2]]
    exact ⟨sva,svc,_,congrArg (fun k=>Value.slice sva k svc) (by simp <;> omega),hbs.cast (congrArg (fun k=>Value.slice sva k svc) (by simp <;> omega)) (by simp <;> omega) rfl,treps_cons.2 ⟨_,_,rfl,hf,hv2⟩⟩
   ·refine Gi 8 503 rfl (Ks [F]) (h_call V rfl ?_)
    have hml:=RT.sizes_length (bmeld ltB a (g::b))
    have hms:=bmeld_size ltB a (g::b)
    have hmf:=RT.sizes_cons f a
    have hmg:=RT.sizes_cons g b
    refine (ih _ _ a (g::b) _ _ hs4.sat ⟨_,_,_,rfl,hr.tail (by simpa using hln),hk2⟩ ⟨_,_,_,rfl,hrb,hkb⟩ O O).mono ?_
    rintro v w8 ⟨Mn,hs8,hn⟩
    obtain ⟨va,vc,vl,rfl,hv1,hv2⟩:=hn
    have hka:=hka.mono' EncB.mono hs8.le
    have hk2:=hk2.mono' EncB.mono hs8.le
    have hf:=hf.mono' EncB.mono hs8.le
    have hkb2:=hkb2.mono' EncB.mono hs8.le
    have hg:=hg.mono' EncB.mono hs8.le
    have:=hs8.size
    have hr:=hr.step hs8
    have hrb:=hrb.step hs8
    have hT:=hT.t hs8
    refine ⟨(by repeat' first | exact trivial | exact ((hr _ _ _ (Step.refl _ hT.sat)).cell (u:= .pointer fq) (j:=(0:Int).toNat*1) rfl) | refine And.intro ?_ ?_),?_⟩
    have hTz:=hT.size
    refine Gh 3 511 rfl (Ks [T]) (h_buildO (e:=360) (size:=1) (zs:=[(.pointer none)]) (cs:=[_]) V V V rfl hs8.sat rfl rfl fun bB w9 hs9 hoB eB=>?_)
    have:=hs9.size
    refine ⟨trivial,?_⟩
    have hbb:=Own.buf hoB (n:=1) (size:=1) rfl (by decide)
    have hv1:=hv1.step hs9
    refine Gh 9 1023 rfl rfl (h_append (e:=360) (size:=1) (bytes:=8) V hs9.sat hbb (hv1.now hs9.sat) rfl rfl (ptrs_one _) O rfl fun sv w10 hs10 hbu hor=>?_)
    have hT:=hT.t hs9
    have hT:=hT.trans hs10 (fun k hk h=>by have h2:bB=k:=Option.some.inj h; omega)
    have hbs:=hbu.rds
    have hka:=hka.mono' EncB.mono hs10.le
    have hk2:=hk2.mono' EncB.mono hs10.le
    have hf:=hf.mono' EncB.mono hs10.le
    have hkb2:=hkb2.mono' EncB.mono hs10.le
    have hg:=hg.mono' EncB.mono hs10.le
    have hv2:=hv2.mono' EncB.mono hs10.le
    obtain ⟨sva,svc,rfl,_,_⟩:=hbu.slice
    refine ⟨trivial,?_⟩
    refine Ga 10 2047 rfl<|Dd V<|⟨_,(.cons rfl (.nil _)),_,rfl,_,hT.to (by rw [bmeldC,if_pos hc2]; omega),?_⟩
    rw [show bmeld ltB (f::a) (g::b)=f::bmeld ltB a (g::b) from by rw [bmeld,if_pos hc2]]
    exact ⟨sva,svc,_,congrArg (fun k=>Value.slice sva k svc) (by simp <;> omega),hbs.cast (congrArg (fun k=>Value.slice sva k svc) (by simp <;> omega)) (by simp <;> omega) rfl,treps_cons.2 ⟨_,_,rfl,hf,hv2⟩⟩
  rintro l2 w2 ⟨v,rfl,M2,hT2,hsr⟩
  refine cw_ret ?_
  exact ⟨_,Rt rfl,M2,hT2,hsr⟩
 ·replace hc2:¬ f.rank<g.rank:=by have:=of_decide_eq_false hc2; omega
  refine Rv fun Z=>?_
  have hs11:=Step.drew hs3.sat
  have:=hs11.size
  refine Gm 0 1 rfl<|Gq 1 3 rfl (fun _=>qi 360 1 rfl) ?_
  have hrb:=hrb.step hs11
  have hT:=hT.t hs11
  refine G1 2 7 rfl ((hrb _ _ _ (Step.refl _ hT.sat)).cell (u:= .pointer gq) (j:=(0:Int).toNat*1) rfl)<|Gm 4 23 rfl<|Gq 5 55 rfl (fun _=>qi 360 1 rfl) ?_
  have hr:=hr.step hs11
  refine G1 6 119 rfl ((hr _ _ _ (Step.refl _ hT.sat)).cell (u:= .pointer fq) (j:=(0:Int).toNat*1) rfl)<|Gh 3 127 rfl (Ks [F,T]) (h_call V rfl ?_)
  refine (th_rank hs11.sat hg).mono ?_
  rintro _ w12 ⟨rfl,hs12⟩
  have:=hs12.size
  have hr:=hr.step hs12
  have hrb:=hrb.step hs12
  have hT:=hT.t hs12
  refine ⟨(by repeat' first | exact trivial | exact ((hr _ _ _ (Step.refl _ hT.sat)).cell (u:= .pointer fq) (j:=(0:Int).toNat*1) rfl) | refine And.intro ?_ ?_),?_⟩
  refine Gh 7 255 rfl (Ks [T]) (h_call V rfl ?_)
  refine (th_rank hs12.sat hf).mono ?_
  rintro _ w13 ⟨rfl,hs13⟩
  have:=hs13.size
  refine ⟨trivial,?_⟩
  refine Gq 8 511 rfl (fun _=>q_lt rfl rfl)<|Ga 9 1023 rfl<|Dx Z ?_
  have hr:=hr.step hs13
  have hrb:=hrb.step hs13
  have hT:=hT.t hs13
  refine cw_cond rfl (fun hc3=>?_) (fun hc3=>?_)
  ·replace hc3:g.rank<f.rank:=by have:=of_decide_eq_true hc3; omega
   refine cw_rdS (fun l2 w2=>∃ v,l2=[(6,v)]∧∃ M2,StepC Nope (bmeldC ltB (f::a) (g::b)) M w M2 w2∧SRow 383 1 EncB M2 w2 (bmeld ltB (f::a) (g::b)) v) V V V rfl rfl ?_ ?_
   ·have hs14:=Step.drew hs13.sat
    have:=hs14.size
    refine Gm 0 1 rfl<|Gq 1 3 rfl (fun _=>qi 360 1 rfl) ?_
    have hrb:=hrb.step hs14
    have hT:=hT.t hs14
    refine G1 2 7 rfl ((hrb _ _ _ (Step.refl _ hT.sat)).cell (u:= .pointer gq) (j:=(0:Int).toNat*1) rfl)<|Gm 4 23 rfl<|Gm 5 55 rfl<|Gm 6 119 rfl<|Gq 7 247 rfl (fun _=>(q_slice (e:=360) (size:=1) (k':= .i64) V V rfl rfl rfl O O O)) ?_
    have hr:=hr.step hs14
    refine at_two (i:=3) (j:=8) V ?_ ?_
    ·have hTz:=hT.size
     refine Gi 3 255 rfl (Ks [T]) (h_buildO (e:=360) (size:=1) (zs:=[(.pointer none)]) (cs:=[_]) V V V rfl hs14.sat rfl rfl fun bB w15 hs15 hoB eB=>?_)
     have:=hs15.size
     refine ⟨trivial,?_⟩
     refine Gh 8 511 rfl rfl (h_call V rfl ?_)
     have hml:=RT.sizes_length (bmeld ltB (f::a) b)
     have hms:=bmeld_size ltB (f::a) b
     have hmf:=RT.sizes_cons f a
     have hmg:=RT.sizes_cons g b
     have hr:=hr.step hs15
     have hrb:=hrb.step hs15
     refine (ih _ _ (f::a) b _ _ hs15.sat ⟨_,_,_,rfl,hr,hka⟩ ⟨_,_,_,rfl,hrb.tail (by simpa using hlnb),hkb2⟩ O O).mono ?_
     rintro v w16 ⟨Mn,hs16,hn⟩
     obtain ⟨va,vc,vl,rfl,hv1,hv2⟩:=hn
     have hka:=hka.mono' EncB.mono hs16.le
     have hk2:=hk2.mono' EncB.mono hs16.le
     have hf:=hf.mono' EncB.mono hs16.le
     have hkb2:=hkb2.mono' EncB.mono hs16.le
     have hg:=hg.mono' EncB.mono hs16.le
     have:=hs16.size
     refine ⟨trivial,?_⟩
     have hoB:=hoB.t hs16
     have hbb:=Own.buf hoB (n:=1) (size:=1) rfl (by decide)
     refine Gh 9 1023 rfl rfl (h_append (e:=360) (size:=1) (bytes:=8) V hs16.sat hbb (hv1.now hs16.sat) rfl rfl (ptrs_one _) O rfl fun sv w17 hs17 hbu hor=>?_)
     have hT:=hT.t hs15 |>.t hs16
     have hT:=hT.trans hs17 (fun k hk h=>by have h2:bB=k:=Option.some.inj h; omega)
     have hbs:=hbu.rds
     have hka:=hka.mono' EncB.mono hs17.le
     have hk2:=hk2.mono' EncB.mono hs17.le
     have hf:=hf.mono' EncB.mono hs17.le
     have hkb2:=hkb2.mono' EncB.mono hs17.le
     have hg:=hg.mono' EncB.mono hs17.le
     have hv2:=hv2.mono' EncB.mono hs17.le
     obtain ⟨sva,svc,rfl,_,_⟩:=hbu.slice
     refine ⟨trivial,?_⟩
     refine Ga 10 2047 rfl<|Dd V<|⟨_,(.cons rfl (.nil _)),_,rfl,_,hT.to (by rw [bmeldC,if_neg hc2,if_pos hc3]; omega),?_⟩
     rw [show bmeld ltB (f::a) (g::b)=g::bmeld ltB (f::a) b from by rw [bmeld,if_neg hc2,if_pos hc3]]
     exact ⟨sva,svc,_,congrArg (fun k=>Value.slice sva k svc) (by simp <;> omega),hbs.cast (congrArg (fun k=>Value.slice sva k svc) (by simp <;> omega)) (by simp <;> omega) rfl,treps_cons.2 ⟨_,_,rfl,hg,hv2⟩⟩
    ·refine Gi 8 503 rfl (Ks [F]) (h_call V rfl ?_)
     have hml:=RT.sizes_length (bmeld ltB (f::a) b)
     have hms:=bmeld_size ltB (f::a) b
     have hmf:=RT.sizes_cons f a
     have hmg:=RT.sizes_cons g b
     refine (ih _ _ (f::a) b _ _ hs14.sat ⟨_,_,_,rfl,hr,hka⟩ ⟨_,_,_,rfl,hrb.tail (by simpa using hlnb),hkb2⟩ O O).mono ?_
     rintro v w18 ⟨Mn,hs18,hn⟩
     obtain ⟨va,vc,vl,rfl,hv1,hv2⟩:=hn
     have hk2:=hk2.mono' EncB.mono hs18.le
     have hf:=hf.mono' EncB.mono hs18.le
     have hkb2:=hkb2.mono' EncB.mono hs18.le
     have hg:=hg.mono' EncB.mono hs18.le
     have:=hs18.size
     have hr:=hr.step hs18
     have hrb:=hrb.step hs18
     have hT:=hT.t hs18
     refine ⟨(by repeat' first | exact trivial | exact ((hrb _ _ _ (Step.refl _ hT.sat)).cell (u:= .pointer gq) (j:=(0:Int).toNat*1) rfl) | refine And.intro ?_ ?_),?_⟩
     have hTz:=hT.size
     refine Gh 3 511 rfl (Ks [T]) (h_buildO (e:=360) (size:=1) (zs:=[(.pointer none)]) (cs:=[_]) V V V rfl hs18.sat rfl rfl fun bB w19 hs19 hoB eB=>?_)
     have:=hs19.size
     refine ⟨trivial,?_⟩
     have hbb:=Own.buf hoB (n:=1) (size:=1) rfl (by decide)
     have hv1:=hv1.step hs19
     refine Gh 9 1023 rfl rfl (h_append (e:=360) (size:=1) (bytes:=8) V hs19.sat hbb (hv1.now hs19.sat) rfl rfl (ptrs_one _) O rfl fun sv w20 hs20 hbu hor=>?_)
     have hT:=hT.t hs19
     have hT:=hT.trans hs20 (fun k hk h=>by have h2:bB=k:=Option.some.inj h; omega)
     have hbs:=hbu.rds
     have hk2:=hk2.mono' EncB.mono hs20.le
     have hf:=hf.mono' EncB.mono hs20.le
     have hkb2:=hkb2.mono' EncB.mono hs20.le
     have hg:=hg.mono' EncB.mono hs20.le
     have hv2:=hv2.mono' EncB.mono hs20.le
     obtain ⟨sva,svc,rfl,_,_⟩:=hbu.slice
     refine ⟨trivial,?_⟩
     refine Ga 10 2047 rfl<|Dd V<|⟨_,(.cons rfl (.nil _)),_,rfl,_,hT.to (by rw [bmeldC,if_neg hc2,if_pos hc3]; omega),?_⟩
     rw [show bmeld ltB (f::a) (g::b)=g::bmeld ltB (f::a) b from by rw [bmeld,if_neg hc2,if_pos hc3]]
     exact ⟨sva,svc,_,congrArg (fun k=>Value.slice sva k svc) (by simp <;> omega),hbs.cast (congrArg (fun k=>Value.slice sva k svc) (by simp <;> omega)) (by simp <;> omega) rfl,treps_cons.2 ⟨_,_,rfl,hg,hv2⟩⟩
   rintro l2 w2 ⟨v,rfl,M2,hT2,hsr⟩
   refine cw_ret ?_
   exact ⟨_,Rt rfl,M2,hT2,hsr⟩
  ·replace hc3:¬ g.rank<f.rank:=by have:=of_decide_eq_false hc3; omega
   refine cw_skip<|hK2 _ _<|Rv fun Z=>?_
   have hs21:=Step.drew hs13.sat
   have:=hs21.size
   refine Gm 0 1 rfl<|Gm 1 3 rfl<|Gq 2 7 rfl (fun _=>(q_slice (e:=360) (size:=1) (k':= .i64) V V rfl rfl rfl O O O))<|Gm 3 15 rfl<|Gq 4 31 rfl (fun _=>(q_slice (e:=360) (size:=1) (k':= .i64) V V rfl rfl rfl O O O))<|Gh 5 63 rfl rfl (h_call V rfl ?_)
   have hml:=RT.sizes_length (bmeld ltB a b)
   have hms:=bmeld_size ltB a b
   have hmf:=RT.sizes_cons f a
   have hmg:=RT.sizes_cons g b
   have hr:=hr.step hs21
   have hrb:=hrb.step hs21
   refine (ih _ _ a b _ _ hs21.sat ⟨_,_,_,rfl,hr.tail (by simpa using hln),hk2⟩ ⟨_,_,_,rfl,hrb.tail (by simpa using hlnb),hkb2⟩ O O).mono ?_
   rintro v w22 ⟨Mn,hs22,hn⟩
   obtain ⟨va,vc,vl,rfl,hv1,hv2⟩:=hn
   have hf:=hf.mono' EncB.mono hs22.le
   have hg:=hg.mono' EncB.mono hs22.le
   have:=hs22.size
   refine ⟨trivial,?_⟩
   refine Ga 6 127 rfl<|Dx Z<|Rv fun Z=>?_
   have hs23:=Step.drew hs22.sat
   have:=hs23.size
   refine Gm 0 1 rfl<|Gm 1 3 rfl<|Gm 2 7 rfl<|Gq 3 15 rfl (fun _=>qi 360 1 rfl) ?_
   have hT:=hT.t hs21 |>.t hs22 |>.t hs23
   have hr:=hr.step hs22 |>.step hs23
   refine G1 4 31 rfl ((hr _ _ _ (Step.refl _ hT.sat)).cell (u:= .pointer fq) (j:=(0:Int).toNat*1) rfl)<|Gm 5 63 rfl<|Gq 6 127 rfl (fun _=>qi 360 1 rfl) ?_
   have hrb:=hrb.step hs22 |>.step hs23
   refine G1 7 255 rfl ((hrb _ _ _ (Step.refl _ hT.sat)).cell (u:= .pointer gq) (j:=(0:Int).toNat*1) rfl)<|Gm 9 767 rfl<|Gh 8 1023 rfl (Ks [T,T]) (h_call V rfl ?_)
   refine (th_link hs23.sat hf hg O).mono ?_
   rintro _ w24 ⟨qn,Mn,rfl,hs24,hn⟩
   have hv2:=hv2.mono' EncB.mono hs24.le
   have:=hs24.size
   refine ⟨trivial,?_⟩
   refine Gh 10 2047 rfl rfl (h_call V rfl ?_)
   have hv1:=hv1.step hs23 |>.step hs24
   refine (sh_put hs24.sat hn ⟨_,_,_,rfl,hv1,hv2⟩ (by rw [RT.link_size]; omega)).mono ?_
   rintro v w25 ⟨Mp,hs25,hp⟩
   obtain ⟨pa,pc,pl,rfl,hp1,hp2⟩:=hp
   have:=hs25.size
   refine ⟨trivial,?_⟩
   refine Ga 11 4095 rfl<|Dx Z<|cw_ret ?_
   rw [show bmeld ltB (f::a) (g::b)=bput ltB (RT.link ltB f g) (bmeld ltB a b) from by rw [bmeld,if_neg hc2,if_neg hc3]]
   have hT:=hT.t hs24 |>.t hs25
   exact ⟨_,Rt rfl,_,hT.to (by rw [bmeldC,if_neg hc2,if_neg hc3]; omega),_,_,_,rfl,hp1,hp2⟩
theorem sh_meld_all:∀ k,SMeldh mb k
 | 0=>fun _ _ _ _ _ _ _ _ _ h _=>absurd h (Nat.not_lt_zero _)
 | k+1=>fun w M a b va vb hs ha hb hk hz=>by
  cases a with
  | nil=>obtain ⟨_,_,_,rfl,_,_⟩:=ha; rw [show bmeld ltB [] b=b by rw [bmeld],show bmeldC ltB [] b=0 by rw [bmeldC]]; exact sh_meld_a hs hb
  | cons f a=>
   cases b with
   | nil=>obtain ⟨_,_,_,rfl,_,_⟩:=hb; rw [show bmeld ltB (f::a) []=f::a by rw [bmeld],show bmeldC ltB (f::a) []=0 by rw [bmeldC]]; exact sh_meld_b hs ha
   | cons g b=>exact sh_meld_c (sh_meld_all k) hs ha hb hk hz
theorem sh_rmeld {a b:List (RT Bt)} {va vb:Value} (hs:Sat M w) (ha:SRow 383 1 EncB M w a va) (hb:SRow 383 1 EncB M w b vb) (hz:RT.sizes a+RT.sizes b≤1000000000):
  Dz 274 #[mval mb,va,vb] w (fun v w'=>∃ M',StepC Nope (bmeldC ltB a b) M w M' w'∧SRow 383 1 EncB M' w' (bmeld ltB a b) v):=sh_meld_all _ _ _ _ _ _ _ hs ha hb (Nat.lt_succ_self _) hz
theorem ch_ofn {l:List (Option Addr)} {sa:Option Addr} {n sc:Nat} (hs:Sat M w) (hn:l.length=n) (hr:Rds M w 1 (.slice sa n sc) n (ptrs l)) (hz:n≤1000000000):
  Dz 273 #[.slice sa n sc] w (fun v w'=>∃ q M',v = .agg #[.pointer q]∧Step Nope M w M' w'∧CRep 381 M' l (.pointer q)):=by
 subst hn; exact ch_of hs hr hz
theorem sh_meld {ts us:List (RT Bt)} {q q2:Option Addr} (hs:Sat M w) (h:FRep 381 383 1 EncB M ts q) (h2:FRep 381 383 1 EncB M us q2) (hz:RT.sizes ts+RT.sizes us≤1000000000):
  Dz 256 #[.agg #[.pointer q],mval mb, .agg #[.pointer q2]] w (fun v w'=>∃ q M',v = .agg #[.pointer q]∧StepC Nope (smeldC ltB ts us) M w M' w'∧FRep 381 383 1 EncB M' (smeld ltB ts us) q):=by
 have hT:=hs.r
 refine Fe Tryz.func256 [.cell 6 345] rfl<|Ri fun Z=>Bm hs rfl fun b1 M1 w1 hs1 hb1 e1=>?_
 have h:=h.mono' EncB.mono hs1.le
 have h2:=h2.mono' EncB.mono hs1.le
 have:=hs1.size
 refine Bm hs1.sat rfl fun b2 M2 w2 hs2 hb2 e2=>?_
 have h:=h.mono' EncB.mono hs2.le
 have h2:=h2.mono' EncB.mono hs2.le
 have:=hs2.size
 have hT:=hT.t hs1 |>.t hs2
 have:=hT.size
 refine Al (.agg #[(.pointer none)]) hs2.sat rfl fun br w3 hs3 hor er=>?_
 have:=hs3.size
 have:=hor.1.lt
 refine Nr Z fun Z=>Qm rfl<|Qf 0 rfl ?_
 have hb1:=hs2.le _ _ hb1
 refine Qc 1 rfl (BD hs3 hb1 rfl)<|Ca rfl ?_
 obtain ⟨l0,hc0,hk0,hll0,hlz0⟩:=h.len
 refine (ch_all hs3.sat hc0 O).mono ?_
 rintro av w4 ⟨Ma0,hs4,hba,hfa⟩
 have h:=h.mono' EncB.mono hs4.le
 have h2:=h2.mono' EncB.mono hs4.le
 have hk0:=hk0.mono' EncB.mono hs4.le
 have:=hs4.size
 rw [hll0] at hba
 obtain ⟨aa,ac,rfl,_,_⟩:=hba.slice
 have hrr:=hba.rds
 refine Ca rfl ((sh_level hs4.sat ⟨_,_,_,rfl,hrr,hk0⟩ O).mono ?_)
 rintro v0 w5 ⟨Ml0,hs5,hlv⟩
 obtain ⟨xa0,xc0,xl0,rfl,hx0,hy0⟩:=hlv
 have h:=h.mono' EncB.mono hs5.le
 have h2:=h2.mono' EncB.mono hs5.le
 have:=hs5.size
 refine Nar rfl Z fun Z=>Qm rfl<|Qf 0 rfl ?_
 have hb2:=hs5.le _ _ (hs4.le _ _ hb2)
 refine Qc 1 rfl (BD hs5 hb2 rfl)<|Ca rfl ?_
 obtain ⟨l1,hc1,hk1,hll1,hlz1⟩:=h2.len
 refine (ch_all hs5.sat hc1 O).mono ?_
 rintro av w6 ⟨Ma1,hs6,hba,hfa⟩
 have h:=h.mono' EncB.mono hs6.le
 have hy0:=hy0.mono' EncB.mono hs6.le
 have hk1:=hk1.mono' EncB.mono hs6.le
 have:=hs6.size
 rw [hll1] at hba
 obtain ⟨aa,ac,rfl,_,_⟩:=hba.slice
 have hrr:=hrr.step hs5 |>.step hs6
 have hrr:=hba.rds
 refine Ca rfl ((sh_level hs6.sat ⟨_,_,_,rfl,hrr,hk1⟩ O).mono ?_)
 rintro v1 w7 ⟨Ml1,hs7,hlv⟩
 obtain ⟨xa1,xc1,xl1,rfl,hx1,hy1⟩:=hlv
 have h:=h.mono' EncB.mono hs7.le
 have hy0:=hy0.mono' EncB.mono hs7.le
 have:=hs7.size
 refine Nar rfl Z fun Z=>Qm rfl<|Qm rfl<|Qm rfl<|Ca rfl ?_
 have hs1_:=slevel_size ltB ts
 have hs2_:=slevel_size ltB us
 have hx0:=hx0.step hs6 |>.step hs7
 refine (sh_rmeld hs7.sat ⟨_,_,_,rfl,hx0,hy0⟩ ⟨_,_,_,rfl,hx1,hy1⟩ O).mono ?_
 rintro vm w8 ⟨Mm,hs8,hm⟩
 obtain ⟨ma,mc,ml,rfl,hm1,hm2⟩:=hm
 have h:=h.mono' EncB.mono hs8.le
 have:=hs8.size
 refine Ca rfl ?_
 have hml:=hm2.length
 have hmz:=RT.sizes_length (bmeld ltB (slevel ltB ts) (slevel ltB us))
 have hms:=bmeld_size ltB (slevel ltB ts) (slevel ltB us)
 refine (ch_ofn hs8.sat hml hm1 O).mono ?_
 rintro _ w9 ⟨qf,Mf,rfl,hs9,hf⟩
 have h:=h.mono' EncB.mono hs9.le
 have hm2:=hm2.mono' EncB.mono hs9.le
 have:=hs9.size
 refine Qq rfl (q_build (zs:=[(.pointer none)]) (places:=[(0,1)]) (cs:=[_]) V V rfl rfl) ?_
 have hor:=hor.t hs4 |>.t hs5 |>.t hs6 |>.t hs7 |>.t hs8 |>.t hs9
 refine St hs9.sat hor rfl fun w10 hs10 hor=>?_
 have:=hs10.size
 refine Nx Z<|cw_ret ?_
 have hT:=hT.t hs3 |>.t hs4 |>.t hs5 |>.t hs6 |>.t hs7 |>.t hs8 |>.t hs9 |>.o hs10
 exact ⟨_,(Rc 1 rfl (OD hor rfl) res_nil),_,_,rfl,hT.to (by unfold smeldC; omega),_,hf,hm2⟩
end Go.Proofs.YtnnldppehojffaaGreat
/- Heaps whose others are heaps, part 1. -/
namespace Go.Proofs.YtnnldppehojffaaGreat
open Go Go.Eng
variable {mb:Option Nat} {w:World} {M:Mem mb}
theorem bo_made {x:El} {ts:List (RT Bt)} {q:Option Addr} (hs:Sat M w) (ht:FRep 381 383 1 EncB M ts q):
  Dz 252 #[mval mb, .agg (elc x).toArray, .agg #[.pointer q]] w (fun v w'=>∃ q M',v = .agg #[.pointer q]∧StepC Nope (1) M w M' w'∧BRep 347 381 383 M' (.node x ts) q):=by
 have hT:=hs.r
 refine Fe Tryz.func252 [.cell 6 172] rfl<|Ri fun Z=>Bm hs rfl fun b1 M1 w1 hs1 hb1 e1=>?_
 have ht:=ht.mono' encB_mono hs1.le
 have:=hs1.size
 refine Bm hs1.sat rfl fun b2 M2 w2 hs2 hb2 e2=>?_
 have ht:=ht.mono' encB_mono hs2.le
 have:=hs2.size
 have hT:=hT.t hs1 |>.t hs2
 have:=hT.size
 refine Al (.agg #[(.pointer none)]) hs2.sat rfl fun br w3 hs3 hor er=>?_
 have:=hs3.size
 have:=hor.1.lt
 refine Nr Z fun Z=>Qm rfl<|Ca rfl ((m_made hs3.sat).mono ?_)
 rintro _ w4 hs4
 have ht:=ht.mono' encB_mono hs4.le
 have:=hs4.size
 refine Nr Z fun Z=>?_
 have hb1:=hs4.le _ _ (hs2.le _ _ hb1)
 refine Qc 2 rfl (BD hs4 hb1 rfl) ?_
 have hb2:=hs4.le _ _ hb2
 refine Qc 1 rfl (BD hs4 hb2 rfl)<|Qq rfl (q_build (zs:=[(.int .i64 0),(.int .i64 0),(.pointer none)]) (places:=[(0,2),(2,1)]) (cs:=[_,_,_]) V V rfl rfl)<|Bm hs4.sat rfl fun b5 M5 w5 hs5 hb5 e5=>?_
 have ht:=ht.mono' encB_mono hs5.le
 have:=hs5.size
 refine Qq rfl (q_build (zs:=[(.pointer none)]) (places:=[(0,1)]) (cs:=[_]) V V rfl rfl) ?_
 have hor:=hor.t hs4 |>.t hs5
 refine St hs5.sat hor rfl fun w6 hs6 hor=>?_
 have:=hs6.size
 refine Nx Z<|cw_ret ?_
 have hT:=hT.t hs3 |>.t hs4 |>.t hs5 |>.o hs6
 exact ⟨_,(Rc 1 rfl (OD hor rfl) res_nil),_,_,rfl,hT,brep_node.2 ⟨_,_,rfl,hb5,ht⟩⟩
theorem bo_min {x:El} {ts:List (RT Bt)} {q:Option Addr} (hs:Sat M w) (h:BRep 347 381 383 M (.node x ts) q):
  Dz 248 #[.agg #[.pointer q],mval mb] w (fun v w'=>v = .tuple #[.agg (elc x).toArray, .bool true]∧Step Nope M w M w'):=by
 have hT:=hs.r
 obtain ⟨b,qs,rfl,hb,ht⟩:=brep_node.1 h
 refine Fe Tryz.func248 [.cell 4 29, .tmp 5] rfl<|Ri fun Z=>Bm hs rfl fun b1 M1 w1 hs1 hb1 e1=>?_
 have:=hs1.size
 have hT:=hT.t hs1
 have:=hT.size
 refine Al (.agg #[(.int .i64 0),(.int .i64 0)]) hs1.sat rfl fun br w2 hs2 hor er=>?_
 have:=hs2.size
 have:=hor.1.lt
 refine Na rfl Z<|cw_seq fun _ hK2=>Ri fun Z=>Qf 0 rfl<|Q1 rfl (BC hs2 hb1 rfl)<|Qq rfl (qn rfl)<|Nx Z<|cw_false rfl<|cw_skip<|hK2 _ _<|Ri fun Z=>Qf 0 rfl<|Q1 rfl (BC hs2 hb1 rfl)<|Qq rfl (q_nilp rfl)<|Qf 0 rfl ?_
 have hb:=hs1.le _ _ hb
 refine Qc 2 rfl (BD hs2 hb rfl)<|St hs2.sat hor rfl fun w3 hs3 hor=>?_
 have:=hs3.size
 refine Na rfl Z<|cw_ret ?_
 have hT:=hT.t hs2 |>.o hs3
 exact ⟨_,(Rc 2 rfl (OD hor rfl) (Rt rfl)),rfl,hT.forget⟩
theorem bo_meld_a {u:Bt} {q2:Option Addr} (hs:Sat M w) (h2:BRep 347 381 383 M u q2):
  Dz 247 #[.agg #[.pointer none],mval mb, .agg #[.pointer q2]] w (fun v w'=>∃ q M',v = .agg #[.pointer q]∧StepC Nope (0) M w M' w'∧BRep 347 381 383 M' u q):=by
 have hT:=hs.r
 refine Fe Tryz.func247 [.cell 6 172] rfl<|Ri fun Z=>Bm hs rfl fun b1 M1 w1 hs1 hb1 e1=>?_
 have:=hs1.size
 refine Bm hs1.sat rfl fun b2 M2 w2 hs2 hb2 e2=>?_
 have:=hs2.size
 have hT:=hT.t hs1 |>.t hs2
 have:=hT.size
 refine Al (.agg #[(.pointer none)]) hs2.sat rfl fun br w3 hs3 hor er=>?_
 have:=hs3.size
 have:=hor.1.lt
 refine Nx Z<|cw_seq fun _ hK2=>cw_block<|Ri fun Z=>Qf 0 rfl ?_
 have hb1:=hs2.le _ _ hb1
 refine Q1 rfl (BC hs3 hb1 rfl)<|Qq rfl (qn rfl)<|Na rfl Z<|cw_true rfl<|Ri fun Z=>Qc 1 rfl (BD hs3 hb2 rfl)<|St hs3.sat hor rfl fun w4 hs4 hor=>?_
 have:=hs4.size
 refine Nx Z<|cw_ret ?_
 have h2:=h2.mono hs1.le |>.mono hs2.le
 have hT:=hT.t hs3 |>.o hs4
 exact ⟨_,(Rc 1 rfl (OD hor rfl) res_nil),_,_,rfl,hT,h2⟩
theorem bo_meld_b {t:Bt} {a:Addr} (hs:Sat M w) (h:BRep 347 381 383 M t (some a)):
  Dz 247 #[.agg #[.pointer (some a)],mval mb, .agg #[.pointer none]] w (fun v w'=>∃ q M',v = .agg #[.pointer q]∧StepC Nope (0) M w M' w'∧BRep 347 381 383 M' t q):=by
 have hT:=hs.r
 refine Fe Tryz.func247 [.cell 6 172] rfl<|Ri fun Z=>Bm hs rfl fun b1 M1 w1 hs1 hb1 e1=>?_
 have:=hs1.size
 refine Bm hs1.sat rfl fun b2 M2 w2 hs2 hb2 e2=>?_
 have:=hs2.size
 have hT:=hT.t hs1 |>.t hs2
 have:=hT.size
 refine Al (.agg #[(.pointer none)]) hs2.sat rfl fun br w3 hs3 hor er=>?_
 have:=hs3.size
 have:=hor.1.lt
 refine Nx Z<|cw_seq fun _ hK2=>cw_block<|Ri fun Z=>Qf 0 rfl ?_
 have hb1:=hs2.le _ _ hb1
 refine Q1 rfl (BC hs3 hb1 rfl)<|Qq rfl (qn rfl)<|Na rfl Z<|cw_false rfl<|Ri fun Z=>Qf 0 rfl<|Q1 rfl (BC hs3 hb2 rfl)<|Qq rfl (qn rfl)<|Na rfl Z<|cw_true rfl<|Ri fun Z=>Qc 1 rfl (BD hs3 hb1 rfl)<|St hs3.sat hor rfl fun w4 hs4 hor=>?_
 have:=hs4.size
 refine Nx Z<|cw_ret ?_
 have h:=h.mono hs1.le |>.mono hs2.le
 have hT:=hT.t hs3 |>.o hs4
 exact ⟨_,(Rc 1 rfl (OD hor rfl) res_nil),_,_,rfl,hT,h⟩
theorem bo_meld_c {x y:El} {ts us:List (RT Bt)} {q q2:Option Addr} (hs:Sat M w) (h:BRep 347 381 383 M (.node x ts) q) (h2:BRep 347 381 383 M (.node y us) q2) (hz:RT.sizes ts<1000000000) (hz2:RT.sizes us<1000000000):
  Dz 247 #[.agg #[.pointer q],mval mb, .agg #[.pointer q2]] w (fun v w'=>∃ q M',v = .agg #[.pointer q]∧StepC Nope ((Bt.node x ts).meldC (.node y us)) M w M' w'∧BRep 347 381 383 M' ((Bt.node x ts).meld (.node y us)) q):=by
 have hT:=hs.r
 obtain ⟨b,qs,rfl,hb,ht⟩:=brep_node.1 h
 obtain ⟨bb,qs2,rfl,hbb,hu⟩:=brep_node.1 h2
 refine Fe Tryz.func247 [.cell 6 172] rfl<|Ri fun Z=>?_
 have:=hT.size
 refine Bo hs rfl fun bh w1 hs1 hoh eh=>?_
 have:=hs1.size
 have:=hoh.1.lt
 have hT:=hT.t hs1
 have:=hT.size
 refine Bo hs1.sat rfl fun bo w2 hs2 hoo eo=>?_
 have hz2:=hs2.size
 have:=hoo.1.lt
 have hT:=hT.t hs2
 have:=hT.size
 refine Al (.agg #[(.pointer none)]) hs2.sat rfl fun br w3 hs3 hor er=>?_
 have:=hs3.size
 have:=hor.1.lt
 refine Nx Z<|cw_seq fun _ hK2=>cw_block<|Ri fun Z=>Qf 0 rfl ?_
 have hoh:=hoh.t hs2 |>.t hs3
 refine Q1 rfl (OC hoh rfl)<|Qq rfl (qn rfl)<|Na rfl Z<|cw_false rfl<|Ri fun Z=>Qf 0 rfl ?_
 have hoo:=hoo.t hs3
 refine Q1 rfl (OC hoo rfl)<|Qq rfl (qn rfl)<|Na rfl Z<|cw_false rfl<|cw_skip<|hK2 _ _<|cw_seq fun _ hK5=>Rv fun Z=>?_
 have hs4:=Step.drew hs3.sat
 have:=hs4.size
 refine Gm 0 1 rfl<|Gf 1 3 0 rfl ?_
 have hoo:=hoo.t hs4
 refine G1 2 7 rfl (OC hoo rfl)<|Gq 3 15 rfl (fun _=>q_nilp rfl)<|Gf 4 31 0 rfl<|Gc 5 63 2 rfl (BD hs4 hbb rfl)<|Gf 6 127 0 rfl ?_
 have hoh:=hoh.t hs4
 refine G1 7 255 rfl (OC hoh rfl)<|Gq 8 511 rfl (fun _=>q_nilp rfl)<|Gf 9 1023 0 rfl<|Gc 10 2047 2 rfl (BD hs4 hb rfl)<|Gh 11 4095 rfl (Ks [T,F,T,F]) (h_call V rfl ?_)
 refine (m_less (a:=y) (b:=x) hs4.sat).mono ?_
 rintro _ w5 ⟨rfl,hs5⟩
 have ht:=ht.mono' encB_mono hs5.le
 have hu:=hu.mono' encB_mono hs5.le
 have:=hs5.size
 have hT:=hT.t hs3 |>.t hs4 |>.t hs5
 have hor:=hor.t hs4 |>.t hs5
 have hb:=hs5.le _ _ hb
 have hbb:=hs5.le _ _ hbb
 have h:=h.mono hs5.le
 have h2:=h2.mono hs5.le
 have hoh:=hoh.t hs5
 have hoo:=hoo.t hs5
 refine ⟨(by repeat' first | exact trivial | exact OC hoh rfl | exact OC hoo rfl | refine And.intro ?_ ?_),?_⟩
 refine Dx Z<|cw_cond rfl (fun hc2=>?_) (fun hc2=>?_)
 ·skip
  refine cw_region fun _ Z=>Qc 1 rfl (OD hoo rfl)<|Qc 1 rfl (OD hoh rfl)<|St hs5.sat hoh rfl fun w6 hs6 hoh=>?_
  have:=hs6.size
  have hoo:=hoo.u hs6
  refine St hs6.sat hoo rfl fun w7 hs7 hoo=>?_
  have:=hs7.size
  refine as_nil (Z _ _ ?_)
  refine hK5 _ _<|Rv fun Z=>?_
  have hs8:=Step.drew hs7.sat
  have:=hs8.size
  refine Gm 0 1 rfl<|Gf 1 3 0 rfl ?_
  have hoh:=hoh.u hs7 |>.t hs8
  refine G1 2 7 rfl (OC hoh rfl)<|Gq 3 15 rfl (fun _=>q_nilp rfl)<|Gf 4 31 0 rfl<|Gc 5 63 2 rfl (BD hs8 hbb rfl)<|Gf 6 127 0 rfl<|G1 7 255 rfl (OC hoh rfl)<|Gq 8 511 rfl (fun _=>q_nilp rfl)<|Gf 9 1023 2 rfl<|Gc 10 2047 1 rfl (BD hs8 hbb rfl)<|Gm 11 4095 rfl ?_
  have hoo:=hoo.t hs8
  refine Gc 12 8191 1 rfl (OD hoo rfl)<|Gh 13 16383 rfl (Ks [T,T,F,F,F]) (h_call V rfl ?_)
  refine (sh_insert (x:= .node x ts) (ts:=us) hs8.sat (encB_iff.2 ⟨_,rfl,h⟩) hu O).mono ?_
  rintro _ w9 ⟨qi,Mi,rfl,hs9,hi⟩
  have ht:=ht.mono' encB_mono hs9.le
  have:=hs9.size
  have hor:=hor.u hs6 |>.u hs7 |>.t hs8 |>.t hs9
  have hT:=hT.o hs6 |>.o hs7 |>.t hs8 |>.t hs9
  have hb:=hs9.le _ _ hb
  have hbb:=hs9.le _ _ hbb
  have h:=h.mono hs9.le
  have h2:=h2.mono hs9.le
  have hoh:=hoh.t hs9
  have hoo:=hoo.t hs9
  refine ⟨(by repeat' first | exact trivial | exact BD hs9 hbb rfl | exact OC hoh rfl | refine And.intro ?_ ?_),?_⟩
  refine Gh 14 32767 rfl (Ks [F,T,F]) (h_call V rfl ?_)
  refine (bo_made (x:=y) hs9.sat hi).mono ?_
  rintro _ w10 ⟨qm,Mm,rfl,hs10,hm⟩
  have ht:=ht.mono' encB_mono hs10.le
  have hi:=hi.mono' encB_mono hs10.le
  have:=hs10.size
  have hb:=hs10.le _ _ hb
  have h:=h.mono hs10.le
  have h2:=h2.mono hs10.le
  have hoh:=hoh.t hs10
  have hoo:=hoo.t hs10
  have hor:=hor.t hs10
  have hT:=hT.t hs10
  refine ⟨(by repeat' first | exact trivial | exact OC hoh rfl | refine And.intro ?_ ?_),?_⟩
  refine G0 15 65535 rfl (Ks [T,T]) (h_store hs10.sat hor rfl rfl rfl V rfl rfl rfl fun w11 hs11 hn11=>?_)
  clear hor; have hor:=hn11; clear hn11
  have:=hs11.size
  refine ⟨trivial,?_⟩
  refine Dx Z<|cw_ret ?_
  rw [Bt.meld,if_pos hc2]
  have hT:=hT.o hs11
  exact ⟨_,(Rc 1 rfl (OD hor rfl) res_nil),_,_,rfl,hT.to (by rw [Bt.meldC,if_pos hc2]; omega),hm⟩
 ·skip
  refine cw_skip<|hK5 _ _<|Rv fun Z=>?_
  have hs12:=Step.drew hs5.sat
  have:=hs12.size
  refine Gm 0 1 rfl<|Gf 1 3 0 rfl ?_
  have hoh:=hoh.t hs12
  refine G1 2 7 rfl (OC hoh rfl)<|Gq 3 15 rfl (fun _=>q_nilp rfl)<|Gf 4 31 0 rfl<|Gc 5 63 2 rfl (BD hs12 hb rfl)<|Gf 6 127 0 rfl<|G1 7 255 rfl (OC hoh rfl)<|Gq 8 511 rfl (fun _=>q_nilp rfl)<|Gf 9 1023 2 rfl<|Gc 10 2047 1 rfl (BD hs12 hb rfl)<|Gm 11 4095 rfl ?_
  have hoo:=hoo.t hs12
  refine Gc 12 8191 1 rfl (OD hoo rfl)<|Gh 13 16383 rfl (Ks [T,T,F,F,F]) (h_call V rfl ?_)
  refine (sh_insert (x:= .node y us) (ts:=ts) hs12.sat (encB_iff.2 ⟨_,rfl,h2⟩) ht O).mono ?_
  rintro _ w13 ⟨qi,Mi,rfl,hs13,hi⟩
  have:=hs13.size
  have hor:=hor.t hs12 |>.t hs13
  have hT:=hT.t hs12 |>.t hs13
  have hb:=hs13.le _ _ hb
  have h:=h.mono hs13.le
  have hoh:=hoh.t hs13
  refine ⟨(by repeat' first | exact trivial | exact BD hs13 hb rfl | exact OC hoh rfl | refine And.intro ?_ ?_),?_⟩
  refine Gh 14 32767 rfl (Ks [F,T,F]) (h_call V rfl ?_)
  refine (bo_made (x:=x) hs13.sat hi).mono ?_
  rintro _ w14 ⟨qm,Mm,rfl,hs14,hm⟩
  have:=hs14.size
  have hoh:=hoh.t hs14
  have hor:=hor.t hs14
  have hT:=hT.t hs14
  refine ⟨(by repeat' first | exact trivial | exact OC hoh rfl | refine And.intro ?_ ?_),?_⟩
  refine G0 15 65535 rfl (Ks [T,T]) (h_store hs14.sat hor rfl rfl rfl V rfl rfl rfl fun w15 hs15 hn15=>?_)
  clear hor; have hor:=hn15; clear hn15
  have:=hs15.size
  refine ⟨trivial,?_⟩
  refine Dx Z<|cw_ret ?_
  rw [Bt.meld,if_neg (by rw [hc2]; decide)]
  have hT:=hT.o hs15
  exact ⟨_,(Rc 1 rfl (OD hor rfl) res_nil),_,_,rfl,hT.to (by rw [Bt.meldC,if_neg (by rw [hc2]; decide)]; omega),hm⟩
theorem bo_meld {t u:Bt} {q q2:Option Addr} (hs:Sat M w) (h:BRep 347 381 383 M t q) (h2:BRep 347 381 383 M u q2) (hz:RT.sizes t.queue<1000000000) (hz2:RT.sizes u.queue<1000000000):Dz 247 #[.agg #[.pointer q],mval mb, .agg #[.pointer q2]] w (fun v w'=>∃ q M',v = .agg #[.pointer q]∧StepC Nope (t.meldC u) M w M' w'∧BRep 347 381 383 M' (t.meld u) q):=by
 cases t with
 | nil=>obtain rfl:=brep_nil.1 h; exact bo_meld_a hs h2
 | node x ts=>
  cases u with
  | nil=>obtain rfl:=brep_nil.1 h2; obtain ⟨b,_,rfl,_⟩:=brep_node.1 h; exact bo_meld_b hs h
  | node y us=>exact bo_meld_c hs h h2 hz hz2
theorem bo_insert {x:El} {t:Bt} {q:Option Addr} (hs:Sat M w) (h:BRep 347 381 383 M t q) (hz:RT.sizes t.queue<1000000000):
  Dz 245 #[.agg #[.pointer q],mval mb, .agg (elc x).toArray] w (fun v w'=>∃ q M',v = .agg #[.pointer q]∧StepC Nope (Bt.insertC x t) M w M' w'∧BRep 347 381 383 M' (Bt.insert x t) q):=by
 have hT:=hs.r
 refine Fe Tryz.func245 [.cell 6 172] rfl<|Ri fun Z=>Bm hs rfl fun b1 M1 w1 hs1 hb1 e1=>?_
 have:=hs1.size
 refine Bm hs1.sat rfl fun b2 M2 w2 hs2 hb2 e2=>?_
 have:=hs2.size
 have hT:=hT.t hs1 |>.t hs2
 have:=hT.size
 refine Al (.agg #[(.pointer none)]) hs2.sat rfl fun br w3 hs3 hor er=>?_
 have:=hs3.size
 have:=hor.1.lt
 refine Nx Z<|Rv fun Z=>?_
 have hs4:=Step.drew hs3.sat
 have:=hs4.size
 refine Gm 0 1 rfl<|Gc 1 3 2 rfl (BD hs4 hb2 rfl)<|Gq 2 7 rfl (fun _=>(q_build (zs:=[(.pointer none)]) (places:=[(0,1)]) (cs:=[_]) V V rfl rfl))<|Gm 4 23 rfl ?_
 have hb1:=hs2.le _ _ hb1
 refine Gc 5 55 1 rfl (BD hs4 hb1 rfl)<|Gh 3 63 rfl (Ks [F,T]) (h_call V rfl ?_)
 refine (bo_made (x:=x) (ts:=[]) hs4.sat (frep_nil.2 rfl)).mono ?_
 rintro _ w5 ⟨qm,Mm,rfl,hs5,hm⟩
 have:=hs5.size
 have h:=h.mono hs1.le |>.mono hs2.le |>.mono hs5.le
 have hT:=hT.t hs3 |>.t hs4 |>.t hs5
 have hor:=hor.t hs4 |>.t hs5
 have hb1:=hs5.le _ _ hb1
 refine ⟨(by repeat' first | exact trivial | exact BD hs5 hb1 rfl | refine And.intro ?_ ?_),?_⟩
 refine Gh 6 127 rfl (Ks [T]) (h_call V rfl ?_)
 refine (bo_meld hs5.sat hm h (by simp [Bt.queue,RT.sizes]) hz).mono ?_
 rintro _ w6 ⟨qn,Mn,rfl,hs6,hn⟩
 have:=hs6.size
 refine ⟨trivial,?_⟩
 have hor:=hor.t hs6
 refine G0 7 255 rfl rfl (h_store hs6.sat hor rfl rfl rfl V rfl rfl rfl fun w7 hs7 hn7=>?_)
 clear hor; have hor:=hn7; clear hn7
 have:=hs7.size
 refine ⟨trivial,?_⟩
 refine Dx Z<|cw_ret ?_
 have hT:=hT.t hs6 |>.o hs7
 exact ⟨_,(Rc 1 rfl (OD hor rfl) res_nil),_,_,rfl,hT.to (by unfold Bt.insertC; omega),hn⟩
end Go.Proofs.YtnnldppehojffaaGreat
/- All heaps behind a heap, part 1. -/
namespace Go.Proofs.YtnnldppehojffaaGreat
open Go Go.Eng
variable {mb:Option Nat} {w:World} {M:Mem mb}
theorem th_aheadb {qx:Option Addr} {l:Value} {n:Nat} {bcs:List Value} (hs:Sat M w) (hl:RdM M 1 l n bcs) (h1:∀ x ∈ bcs,x.oneCell'=true) (hz:n≤1000000000):
  Dz 281 #[.agg #[.pointer qx],l] w (fun v w'=>∃ sa sc M',v = .slice sa (n+1) sc∧Step Nope M w M' w'∧Buf w' M' 172 1 (.slice sa (n+1) sc) (n+1) ([.pointer qx]++bcs)∧∀ g,(Value.slice sa (n+1) sc).ownBlock=some g→w.heap.size≤g):=by
 have hT:=hs.r
 obtain ⟨la,lc,rfl,_,_⟩:=hl.slice
 refine Fe Tryz.func281 [.tmp 4] rfl<|Ri fun Z=>Bm hs rfl fun b1 M1 w1 hs1 hb1 e1=>?_
 have:=hs1.size
 refine Nar rfl Z fun Z=>Qc 1 rfl (BD hs1 hb1 rfl)<|as_h rfl (h_buildO (e:=172) (size:=1) (zs:=[.pointer none]) (cs:=[_]) V V V rfl hs1.sat rfl rfl fun bB w2 hs2 hoB eB=>?_)
 have:=hs2.size
 refine Qm rfl ?_
 have hbb:=Own.buf hoB (n:=1) (size:=1) rfl (by decide)
 have hl:=hl.mono hs1.le
 refine as_h rfl (h_append (e:=172) (size:=1) (bytes:=8) V hs2.sat hbb (hl.rd hs2.sat) rfl rfl h1 O rfl fun sv w3 hs3 hbu hor=>?_)
 have hT:=hT.t hs1 |>.t hs2
 have:=hT.size
 have:=hs3.size
 have hT:=hT.trans hs3 (fun k hk h=>by have h2:bB=k:=Option.some.inj h; omega)
 have hfr:∀ g,sv.ownBlock=some g→w.heap.size≤g:=fun g hg=>by
  rcases hor with h | h
  ·rw [h] at hg; have h2:bB=g:=Option.some.inj hg; omega
  ·rw [h] at hg; have h2:=Option.some.inj hg; omega
 obtain ⟨sa,sc,rfl,_,_⟩:=hbu.slice
 refine Na rfl Z<|cw_ret ?_
 rw [show 1+n=n+1 by omega] at hbu
 exact ⟨_,Rt rfl,_,_,_,congrArg (fun k=>Value.slice sa k sc) (Nat.add_comm 1 n),hT,hbu,fun g hg=>hfr g (by cases sa <;> exact hg)⟩
def TAll (mb:Option Nat) (k:Nat):Prop:=∀ (w:World) (M:Mem mb) (t:RT Bt) (q:Option Addr),Sat M w→TRep 383 1 EncB M t q→t.size<k→t.size≤1000000000→
  Dz 287 #[.pointer q] w (fun v w'=>∃ sa sc M' cs,v = .slice sa t.size sc∧Step Nope M w M' w'∧Buf w' M' 172 1 (.slice sa t.size sc) t.size cs∧EncL EncB 1 M' (RT.all t) cs∧∀ g,(Value.slice sa t.size sc).ownBlock=some g→w.heap.size≤g)
theorem th_all_n {w:World} {M:Mem mb} {x:Bt} {bs:List Bt} {ks:List (RT Bt)} {q:Option Addr} {k:Nat} (ih:TAll mb k) (hs:Sat M w) (h:TRep 383 1 EncB M (.node x bs ks) q) (hk:(RT.node x bs ks).size<k+1) (hz:(RT.node x bs ks).size≤1000000000):
  Dz 287 #[.pointer q] w (fun v w'=>∃ sa sc M' cs,v = .slice sa (1+bs.length+RT.sizes ks) sc∧Step Nope M w M' w'∧Buf w' M' 172 1 (.slice sa (1+bs.length+RT.sizes ks) sc) (1+bs.length+RT.sizes ks) cs∧EncL EncB 1 M' (RT.all (.node x bs ks)) cs∧∀ g,(Value.slice sa (1+bs.length+RT.sizes ks) sc).ownBlock=some g→w.heap.size≤g):=by
 have hT:=hs.r
 obtain ⟨b,xc,bv,bcs,kv,ka,rfl,hb,hx,hxl,hbs,hbl,hks,hkl⟩:=trep_node.1 h
 obtain ⟨qx,rfl,_⟩:=encB_iff.1 hx
 obtain ⟨ba,bk,rfl,_,_⟩:=hbs.slice
 obtain ⟨kp,kk,rfl,_,_⟩:=hks.slice
 have hksM:=hks
 have hklM:=hkl
 simp only [RT.size] at hk hz
 refine Fe Tryz.func287 [.tmp 2] rfl<|Ri fun Z=>Na rfl Z<|cw_seq fun _ hK2=>Ri fun Z=>Qm rfl<|Qq rfl (qn rfl)<|Nx Z<|cw_false rfl<|cw_skip<|hK2 _ _<|Rv fun Z=>?_
 have hs1:=Step.drew hs
 have:=hs1.size
 refine Gm 0 1 rfl<|Gq 1 3 rfl (fun _=>q_nilp rfl)<|Gf 2 7 1 rfl<|Gc 3 15 1 rfl (BD hs1 hb rfl)<|Gm 4 31 rfl<|Gq 5 63 rfl (fun _=>q_nilp rfl)<|Gf 6 127 2 rfl<|G1 7 255 rfl (BC hs1 hb rfl)<|Gh 8 511 rfl (Ks [T,T]) (h_call V rfl ?_)
 refine (th_aheadb (qx:=qx) hs1.sat hbs (encB_one hbl) O).mono ?_
 rintro _ w2 ⟨sa,sc,Mn,rfl,hs2,hbu,hfr⟩
 have hT:=hT.t hs1
 have hsz_:=hT.size
 replace hfr:∀ g,(Value.slice sa (bs.length+1) sc).ownBlock=some g→w.heap.size≤g:=fun g hg=>Nat.le_trans hsz_ (hfr g hg)
 have hkl:=hkl.mono' EncB.mono hs2.le
 have:=hs2.size
 refine ⟨trivial,?_⟩
 refine Ga 9 1023 rfl<|Dx Z<|cw_seq fun _ hK5=>Ri fun Z=>Qm rfl<|Qq rfl (q_nilp rfl)<|Qf 3 rfl ?_
 have hb:=hs2.le _ _ hb
 refine Q1 rfl (BC hs2 hb rfl)<|Qq rfl (ql rfl)<|Qm rfl<|Nx Z<|cw_block ?_
 have hks:=hks.mono hs2.le
 have hbl:=hbl.mono EncB.mono hs2.le
 have hx:=EncB.mono _ _ _ _ hs2.le hx
 have hT:=hT.t hs2
 refine cw_loop (fun mm l1 w1=>∃ (i n:Nat) (sa:Option Addr) (sc:Nat) (M1:Mem mb) (cs:List Value),mm=ks.length-i∧i≤ks.length∧n=1+bs.length+RT.sizes (ks.take i)∧l1=[(20, .slice kp ks.length kk),(21, .int .i64 (ks.length:Nat)),(22, .int .i64 i),(3, .slice sa n sc)]∧Step Nope M w M1 w1∧Buf w1 M1 172 1 (.slice sa n sc) n cs∧EncL EncB 1 M1 (x::(bs++RT.alls (ks.take i))) cs∧(∀ g,(Value.slice sa n sc).ownBlock=some g→w.heap.size≤g)) (ks.length) [(20, .slice kp ks.length kk),(21, .int .i64 (ks.length:Nat)),(22, .int .i64 (0:Nat)),(3, .slice sa (bs.length+1) sc)] (.cons rfl (.cons rfl (.cons rfl (.cons rfl (.nil _))))) ?_ ?_
 ·refine ⟨0,bs.length+1,sa,sc,Mn,_,rfl,Nat.zero_le _,by simp [RT.sizes]; omega,rfl,hT,hbu,?_,hfr⟩
  simp only [List.take_zero,RT.alls,List.append_nil]
  exact ⟨_,_,rfl,rfl,hx,hbl⟩
 have hleM:=hT.le
 have hks0:=hks
 have hkl0:=hkl
 clear hT hbu hfr
 rintro mm l1 w1 ⟨i,n,sa,sc,M1,cs,rfl,hi,hn,rfl,hT,hbu,hcl,hfr⟩
 have hks:=hksM.mono hT.le
 have hkl:=hklM.mono' EncB.mono hT.le
 refine Ri fun Z=>Qq rfl (q_lt rfl rfl)<|Nx Z<|cw_seq fun _ hK8=>cw_cond rfl (fun hc1=>?_) (fun hc1=>?_)
 ·have hlt:i<ks.length:=by have:=of_decide_eq_true hc1; omega
  obtain ⟨k,hk⟩:∃ k,ks[i]? = some k:=⟨ks[i],by simp⟩
  obtain ⟨kq,hkq,hkr⟩:=hkl.get hk
  obtain ⟨kb,ko,rfl⟩:=hks.there O
  have hks1:=RT.sizes_take hk
  have hks2:=RT.sizes_take_le ks (i+1)
  have hksl:=RT.sizes_length ks
  refine cw_skip<|hK8 _ _<|cw_seq fun _ hK9=>cw_block<|Ri fun Z=>Qq rfl (qi 360 1 rfl)<|Q1 rfl (hks.cell hT.sat (u:= .pointer kq) (by rw [show (i:Int).toNat*1=i from by omega]; simp [ptrs,hkq]))<|Na rfl Z<|cw_region fun _ Z=>Qm rfl<|Qm rfl<|Ca rfl ((ih _ _ k _ hT.sat hkr O O).mono ?_)
  rintro _ w3 ⟨ra,rc,Mr,ds,rfl,hs3,hrb,hrl,_⟩
  have:=hs3.size
  have hT:=hT.t hs3
  have hTq:=hT.size
  have hbu:=hbu.t hs3
  refine as_h rfl (h_append (e:=172) (size:=1) (bytes:=8) V hs3.sat hbu hrb.rd rfl rfl (encB_one hrl) O rfl fun sv w4 hs4 hbu2 hor=>?_)
  have hT:=hT.trans hs4 (fun k hk h=>by have:=hfr k h; omega)
  have:=hs4.size
  have hcl:=hcl.mono EncB.mono hs3.le |>.mono EncB.mono hs4.le
  have hrl:=hrl.mono EncB.mono hs4.le
  have hfr2:∀ g,sv.ownBlock=some g→w.heap.size≤g:=fun g hg=>by
   rcases hor with h | h
   ·rw [h] at hg; exact hfr g hg
   ·rw [h] at hg; have h2:=Option.some.inj hg; omega
  obtain ⟨sva,svc,rfl,_,_⟩:=hbu2.slice
  refine Qa rfl<|as_nil (Z _ _ ?_)
  refine hK9 _ _<|cw_region fun _ Z=>Qq rfl (qA rfl)<|Qm rfl<|as_nil (Z _ _ ?_)
  refine ⟨_,_,?_,(.cons rfl (.cons rfl (.cons rfl (.cons rfl (.nil _))))),i+1,_,_,_,_,_,rfl,by omega,?_,rfl,hT,hbu2,?_,hfr2⟩
  ·omega
  ·omega
  ·rw [RT.alls_take hk,← List.append_assoc,← List.cons_append]; exact hcl.append hrl
 ·have hge:i=ks.length:=by have:=of_decide_eq_false hc1; omega
  refine cw_exit<|hK5 _ _<|Ri fun Z=>Qm rfl<|Na rfl Z<|cw_ret ?_
  subst hge
  rw [List.take_length] at hn hcl
  subst hn
  exact ⟨_,Rt rfl,_,_,_,_,rfl,hT,hbu,hcl,hfr⟩
theorem th_all_all:∀ k,TAll mb k
 | 0=>fun _ _ _ _ _ _ h _=>absurd h (Nat.not_lt_zero _)
 | k+1=>fun w M t q hs h hk hz=>by
  cases t with
  | node x bs ks=>exact th_all_n (th_all_all k) hs h hk hz
theorem th_all {t:RT Bt} {q:Option Addr} (hs:Sat M w) (h:TRep 383 1 EncB M t q) (hz:t.size≤1000000000):
  Dz 287 #[.pointer q] w (fun v w'=>∃ sa sc M' cs,v = .slice sa t.size sc∧Step Nope M w M' w'∧Buf w' M' 172 1 (.slice sa t.size sc) t.size cs∧EncL EncB 1 M' (RT.all t) cs∧∀ g,(Value.slice sa t.size sc).ownBlock=some g→w.heap.size≤g):=th_all_all _ _ _ _ _ hs h (Nat.lt_succ_self _) hz
theorem sh_all {ts:List (RT Bt)} {q:Option Addr} (hs:Sat M w) (h:FRep 381 383 1 EncB M ts q) (hz:RT.sizes ts≤1000000000):
  Dz 277 #[.agg #[.pointer q]] w (fun v w'=>∃ sa sc M' cs,v = .slice sa (RT.sizes ts) sc∧Step Nope M w M' w'∧Buf w' M' 172 1 (.slice sa (RT.sizes ts) sc) (RT.sizes ts) cs∧EncL EncB 1 M' (RT.alls ts) cs∧∀ g,(Value.slice sa (RT.sizes ts) sc).ownBlock=some g→w.heap.size≤g):=by
 have hT:=hs.r
 obtain ⟨l,hc,hk,hll,hlz⟩:=h.len
 refine Fe Tryz.func277 [.tmp 2] rfl<|Ri fun Z=>Bm hs rfl fun b1 M1 w1 hs1 hb1 e1=>?_
 have hk:=hk.mono' EncB.mono hs1.le
 have:=hs1.size
 refine Nar rfl Z fun Z=>Na rfl Z<|cw_seq fun _ hK3=>Ri fun Z=>Qf 0 rfl<|Qc 1 rfl (BD hs1 hb1 rfl) ?_
 have hc:=hc.mono hs1.le
 refine Ca rfl ((ch_all hs1.sat hc O).mono ?_)
 rintro av w2 ⟨Ma,hs2,hba,hfa⟩
 have hk:=hk.mono' EncB.mono hs2.le
 have:=hs2.size
 obtain ⟨aa,ac,rfl,_,_⟩:=hba.slice
 have hT:=hT.t hs1 |>.t hs2
 have hTa:=hT
 have hra0:=hba.rds
 refine Qq rfl (ql rfl)<|Qm rfl<|Nx Z<|cw_block<|cw_loop (fun mm l1 w1=>∃ (i n:Nat) (sa:Option Addr) (sc:Nat) (M1:Mem mb) (cs:List Value),mm=l.length-i∧i≤l.length∧n=RT.sizes (ts.take i)∧l1=[(8, .slice aa l.length ac),(9, .int .i64 (l.length:Nat)),(10, .int .i64 i),(3, .slice sa n sc)]∧Step Nope M w M1 w1∧Step Nope Ma w2 M1 w1∧Buf w1 M1 172 1 (.slice sa n sc) n cs∧EncL EncB 1 M1 (RT.alls (ts.take i)) cs∧(∀ g,(Value.slice sa n sc).ownBlock=some g→w2.heap.size≤g)) (l.length) [(8, .slice aa l.length ac),(9, .int .i64 (l.length:Nat)),(10, .int .i64 (0:Nat)),(3, .slice none (0:Nat) 0)] (.cons rfl (.cons rfl (.cons rfl (.cons rfl (.nil _))))) ?_ ?_
 ·exact ⟨0,0,none,0,Ma,[],rfl,Nat.zero_le _,by simp [RT.sizes],rfl,hT,Step.refl _ hs2.sat,Buf.nil _ _ _ _,rfl,fun g hg=>by cases hg⟩
 have hkM:=hk
 have hTs0:=hT.size
 clear hT hba
 rintro mm l1 w1 ⟨i,n,sa,sc,M1,cs,rfl,hi,hn,rfl,hT,hT2,hbu,hcl,hfr⟩
 have hk:=hkM.mono' EncB.mono hT2.le
 refine Ri fun Z=>Qq rfl (q_lt rfl rfl)<|Nx Z<|cw_seq fun _ hK6=>cw_cond rfl (fun hc0=>?_) (fun hc0=>?_)
 ·have hlt:i<l.length:=by have:=of_decide_eq_true hc0; omega
  obtain ⟨k,hkk⟩:∃ k,ts[i]? = some k:=⟨ts[i]'O,by simp⟩
  obtain ⟨kq,hkq,hkr⟩:=hk.get hkk
  obtain ⟨g,o,rfl⟩:=(hra0 _ _ _ hT2).there O
  have hks1:=RT.sizes_take hkk
  have hks2:=RT.sizes_take_le ts (i+1)
  refine cw_skip<|hK6 _ _<|cw_seq fun _ hK7=>cw_block<|Ri fun Z=>Qq rfl (qi 360 1 rfl)<|Q1 rfl ((hra0 _ _ _ hT2).cell (u:= .pointer kq) (j:=(i:Int).toNat*1) (by rw [show (i:Int).toNat*1=i from by omega]; simp [ptrs,hkq]))<|Na rfl Z<|cw_region fun _ Z=>Qm rfl<|Qm rfl<|Ca rfl ((th_all hT.sat hkr O).mono ?_)
  rintro _ w3 ⟨ra,rc,Mr,ds,rfl,hs3,hrb,hrl,_⟩
  have hk:=hk.mono' EncB.mono hs3.le
  have:=hs3.size
  have hT2:=hT2.t hs3
  have hTq:=hT2.size
  have hbu:=hbu.t hs3
  refine as_h rfl (h_append (e:=172) (size:=1) (bytes:=8) V hs3.sat hbu hrb.rd rfl rfl (encB_one hrl) O rfl fun sv w4 hs4 hbu2 hor=>?_)
  have hk:=hk.mono' EncB.mono hs4.le
  have hT:=hT.t hs3
  have hT:=hT.trans hs4 (fun k hk h=>by have:=hfr k h; omega)
  have hT2:=hT2.trans hs4 (fun k hk h=>by have:=hfr k h; omega)
  have:=hs4.size
  have hcl:=hcl.mono EncB.mono hs3.le |>.mono EncB.mono hs4.le
  have hrl:=hrl.mono EncB.mono hs4.le
  have hfr2:∀ g,sv.ownBlock=some g→w2.heap.size≤g:=fun g hg=>by
   rcases hor with h | h
   ·rw [h] at hg; exact hfr g hg
   ·rw [h] at hg; have h2:=Option.some.inj hg; omega
  obtain ⟨sva,svc,rfl,_,_⟩:=hbu2.slice
  refine Qa rfl<|as_nil (Z _ _ ?_)
  refine hK7 _ _<|cw_region fun _ Z=>Qq rfl (qA rfl)<|Qm rfl<|as_nil (Z _ _ ?_)
  refine ⟨_,_,?_,(.cons rfl (.cons rfl (.cons rfl (.cons rfl (.nil _))))),i+1,_,_,_,_,_,rfl,by omega,?_,rfl,hT,hT2,hbu2,?_,hfr2⟩
  ·omega
  ·omega
  ·rw [RT.alls_take hkk]; exact hcl.append hrl
 ·have hge:i=l.length:=by have:=of_decide_eq_false hc0; omega
  refine cw_exit<|hK3 _ _<|Ri fun Z=>Qm rfl<|Na rfl Z<|cw_ret ?_
  subst hge
  rw [List.take_of_length_le O] at hn hcl
  subst hn
  exact ⟨_,Rt rfl,_,_,_,_,rfl,hT,hbu,hcl,fun g hg=>Nat.le_trans hTs0 (hfr g hg)⟩
theorem cells_oneB {b o:Nat} {v:Value} {w:World} (h:w.cell? ⟨b,o,none⟩=some v):cellsAre b o 1 [v] w:=⟨rfl,fun j u hj=>by
 cases j with
 | zero=>cases hj; exact h
 | succ j=>simp at hj⟩
end Go.Proofs.YtnnldppehojffaaGreat
/- Copies of rows, part 1. -/
namespace Go.Proofs.YtnnldppehojffaaGreat
open Go Go.Eng
variable {mb:Option Nat} {w:World} {M:Mem mb}
theorem clke_some {n c:Nat} {p:Addr} {cs:List Value} (hs:Sat M w) (hr:Rds M w 1 (.slice (some p) n c) n cs) (h1:∀ x ∈ cs,x.oneCell'=true) (hn:n≤1000000000):
  Dz 177 #[.slice (some p) n c] w (fun v w'=>Step Nope M w M w'∧Buf w' M 264 1 v n cs∧∀ g,v.ownBlock=some g→w.heap.size≤g):=by
 have hT:=hs.r
 refine Fe Tryz.func177 [.tmp 2] rfl<|Ri fun Z=>Na rfl Z<|cw_seq fun _ hK2=>Ri fun Z=>Qm rfl<|Qq rfl (q_eqsl V rfl)<|Nx Z<|cw_false rfl<|cw_skip<|hK2 _ _<|Ri fun Z=>as_h rfl (h_buildO (e:=264) (size:=1) (zs:=[]) (cs:=[]) V V V rfl hs rfl rfl fun b1 w1 hs1 ho1 e1=>?_)
 have:=hs1.size
 have:=ho1.1.lt
 refine Qm rfl ?_
 have hbb:=Own.buf ho1 (n:=0) (size:=1) rfl (by decide)
 have hT:=hT.t hs1
 have:=hT.size
 refine as_h rfl (h_append (e:=264) (size:=1) (bytes:=8) V hs1.sat hbb (hr _ _ _ hT) rfl rfl h1 O rfl fun sv w2 hs2 hb hor=>?_)
 have:=hs2.size
 have hfr:∀ g,sv.ownBlock=some g→w.heap.size≤g:=fun g hg=>by
  rcases hor with h | h
  ·rw [h] at hg; have h2:b1=g:=Option.some.inj hg; omega
  ·rw [h] at hg; have h2:=Option.some.inj hg; omega
 have hT:=hT.trans hs2 (fun k hk h=>by have h2:b1=k:=Option.some.inj h; omega)
 rw [Nat.zero_add,List.nil_append] at hb
 refine Na rfl Z<|cw_ret ?_
 exact ⟨_,Rt rfl,hT,hb,hfr⟩
theorem clke_nil (hs:Sat M w):
  Dz 177 #[.slice none 0 0] w (fun v w'=>v = .slice none 0 0∧Step Nope M w M w'):=by
 have hT:=hs.r
 refine Fe Tryz.func177 [.tmp 2] rfl<|Ri fun Z=>Na rfl Z<|cw_seq fun _ hK2=>Ri fun Z=>Qm rfl<|Qq rfl (q_eqsl V rfl)<|Nx Z<|cw_true rfl<|Ri fun Z=>Na rfl Z<|cw_ret ?_
 exact ⟨_,Rt rfl,rfl,hT⟩
theorem clke {n:Nat} {u:Value} {cs:List Value} (hs:Sat M w) (hr:Rds M w 1 u n cs) (h1:∀ x ∈ cs,x.oneCell'=true) (hn:n≤1000000000):
  Dz 177 #[u] w (fun v w'=>Step Nope M w M w'∧Buf w' M 264 1 v n cs∧∀ g,v.ownBlock=some g→w.heap.size≤g):=by
 obtain ⟨a,c,rfl,_,hnil⟩:=hr.slice hs
 cases a with
 | none=>
  obtain ⟨rfl,rfl⟩:=hnil rfl
  obtain rfl:cs=[]:=List.eq_nil_of_length_eq_zero (by have:=hr.len hs; omega)
  exact (clke_nil hs).mono fun v w' ⟨h1,h2⟩=>by
   subst h1
   exact ⟨h2,Buf.nil _ _ _ _,fun g hg=>(by cases hg)⟩
 | some p=>exact clke_some hs hr h1 hn
theorem clxe_some {n c:Nat} {p:Addr} {cs:List Value} (hs:Sat M w) (hr:Rds M w 2 (.slice (some p) n c) n cs) (h1:∀ x ∈ cs,x.oneCell'=true) (hn:n≤1000000000):
  Dz 39 #[.slice (some p) n c] w (fun v w'=>Step Nope M w M w'∧Buf w' M 29 2 v n cs∧∀ g,v.ownBlock=some g→w.heap.size≤g):=by
 have hT:=hs.r
 refine Fe Tryz.func39 [.tmp 2] rfl<|Ri fun Z=>Na rfl Z<|cw_seq fun _ hK2=>Ri fun Z=>Qm rfl<|Qq rfl (q_eqsl V rfl)<|Nx Z<|cw_false rfl<|cw_skip<|hK2 _ _<|Ri fun Z=>as_h rfl (h_buildO (e:=29) (size:=2) (zs:=[]) (cs:=[]) V V V rfl hs rfl rfl fun b1 w1 hs1 ho1 e1=>?_)
 have:=hs1.size
 have:=ho1.1.lt
 refine Qm rfl ?_
 have hbb:=Own.buf ho1 (n:=0) (size:=2) rfl (by decide)
 have hT:=hT.t hs1
 have:=hT.size
 refine as_h rfl (h_append (e:=29) (size:=2) (bytes:=16) V hs1.sat hbb (hr _ _ _ hT) rfl rfl h1 O rfl fun sv w2 hs2 hb hor=>?_)
 have:=hs2.size
 have hfr:∀ g,sv.ownBlock=some g→w.heap.size≤g:=fun g hg=>by
  rcases hor with h | h
  ·rw [h] at hg; have h2:b1=g:=Option.some.inj hg; omega
  ·rw [h] at hg; have h2:=Option.some.inj hg; omega
 have hT:=hT.trans hs2 (fun k hk h=>by have h2:b1=k:=Option.some.inj h; omega)
 rw [Nat.zero_add,List.nil_append] at hb
 refine Na rfl Z<|cw_ret ?_
 exact ⟨_,Rt rfl,hT,hb,hfr⟩
theorem clxe_nil (hs:Sat M w):
  Dz 39 #[.slice none 0 0] w (fun v w'=>v = .slice none 0 0∧Step Nope M w M w'):=by
 have hT:=hs.r
 refine Fe Tryz.func39 [.tmp 2] rfl<|Ri fun Z=>Na rfl Z<|cw_seq fun _ hK2=>Ri fun Z=>Qm rfl<|Qq rfl (q_eqsl V rfl)<|Nx Z<|cw_true rfl<|Ri fun Z=>Na rfl Z<|cw_ret ?_
 exact ⟨_,Rt rfl,rfl,hT⟩
theorem clxe {n:Nat} {u:Value} {cs:List Value} (hs:Sat M w) (hr:Rds M w 2 u n cs) (h1:∀ x ∈ cs,x.oneCell'=true) (hn:n≤1000000000):
  Dz 39 #[u] w (fun v w'=>Step Nope M w M w'∧Buf w' M 29 2 v n cs∧∀ g,v.ownBlock=some g→w.heap.size≤g):=by
 obtain ⟨a,c,rfl,_,hnil⟩:=hr.slice hs
 cases a with
 | none=>
  obtain ⟨rfl,rfl⟩:=hnil rfl
  obtain rfl:cs=[]:=List.eq_nil_of_length_eq_zero (by have:=hr.len hs; omega)
  exact (clxe_nil hs).mono fun v w' ⟨h1,h2⟩=>by
   subst h1
   exact ⟨h2,Buf.nil _ _ _ _,fun g hg=>(by cases hg)⟩
 | some p=>exact clxe_some hs hr h1 hn
theorem te_kids {x:El} {bs:List El} {ks:List (RT El)} {q:Option Addr} (hs:Sat M w) (h:TRep 287 2 EncE M (.node x bs ks) q) (hz:RT.sizes ks≤1000000000):
  Dz 164 #[.pointer q] w (fun v w'=>∃ sa sc M' ka,v = .slice sa ks.length sc∧Step Nope M w M' w'∧Buf w' M' 264 1 (.slice sa ks.length sc) ks.length (ptrs ka)∧TReps 287 2 EncE M' ks ka∧∀ g,(Value.slice sa ks.length sc).ownBlock=some g→w.heap.size≤g):=by
 have hT:=hs.r
 obtain ⟨b,xc,bv,bcs,kv,ka,rfl,hb,hx,hxl,hbs,hbl,hks,hkl⟩:=trep_node.1 h
 obtain rfl:=(show xc=elc _ from hx)
 obtain ⟨ba,bk,rfl,_,_⟩:=hbs.slice
 obtain ⟨kp,kk,rfl,_,_⟩:=hks.slice
 refine Fe Tryz.func164 [.tmp 2] rfl<|Ri fun Z=>Na rfl Z<|cw_seq fun _ hK2=>Ri fun Z=>Qm rfl<|Qq rfl (qn rfl)<|Nx Z<|cw_false rfl<|cw_skip<|hK2 _ _<|Ri fun Z=>Qm rfl<|Qq rfl (q_nilp rfl)<|Qf 4 rfl<|Q1 rfl (BlkR.cell (hs _ _ _ hb) rfl)<|Ca rfl ((clke hs (hks.rds _) (ptrs_one _) (by have:=RT.sizes_length ks; omega)).mono ?_)
 rintro kv w1 ⟨hs1,hkb,hkf⟩
 have:=hs1.size
 obtain ⟨ksa,ksc,rfl,_,_⟩:=hkb.slice
 refine Na rfl Z<|cw_ret ?_
 have hT:=hT.t hs1
 exact ⟨_,Rt rfl,_,_,_,_,rfl,hT,hkb,hkl.mono' EncE.mono hT.le,hkf⟩
theorem clkh_some {n c:Nat} {p:Addr} {cs:List Value} (hs:Sat M w) (hr:Rds M w 1 (.slice (some p) n c) n cs) (h1:∀ x ∈ cs,x.oneCell'=true) (hn:n≤1000000000):
  Dz 284 #[.slice (some p) n c] w (fun v w'=>Step Nope M w M w'∧Buf w' M 360 1 v n cs∧∀ g,v.ownBlock=some g→w.heap.size≤g):=by
 have hT:=hs.r
 refine Fe Tryz.func284 [.tmp 2] rfl<|Ri fun Z=>Na rfl Z<|cw_seq fun _ hK2=>Ri fun Z=>Qm rfl<|Qq rfl (q_eqsl V rfl)<|Nx Z<|cw_false rfl<|cw_skip<|hK2 _ _<|Ri fun Z=>as_h rfl (h_buildO (e:=360) (size:=1) (zs:=[]) (cs:=[]) V V V rfl hs rfl rfl fun b1 w1 hs1 ho1 e1=>?_)
 have:=hs1.size
 have:=ho1.1.lt
 refine Qm rfl ?_
 have hbb:=Own.buf ho1 (n:=0) (size:=1) rfl (by decide)
 have hT:=hT.t hs1
 have:=hT.size
 refine as_h rfl (h_append (e:=360) (size:=1) (bytes:=8) V hs1.sat hbb (hr _ _ _ hT) rfl rfl h1 O rfl fun sv w2 hs2 hb hor=>?_)
 have:=hs2.size
 have hfr:∀ g,sv.ownBlock=some g→w.heap.size≤g:=fun g hg=>by
  rcases hor with h | h
  ·rw [h] at hg; have h2:b1=g:=Option.some.inj hg; omega
  ·rw [h] at hg; have h2:=Option.some.inj hg; omega
 have hT:=hT.trans hs2 (fun k hk h=>by have h2:b1=k:=Option.some.inj h; omega)
 rw [Nat.zero_add,List.nil_append] at hb
 refine Na rfl Z<|cw_ret ?_
 exact ⟨_,Rt rfl,hT,hb,hfr⟩
theorem clkh_nil (hs:Sat M w):
  Dz 284 #[.slice none 0 0] w (fun v w'=>v = .slice none 0 0∧Step Nope M w M w'):=by
 have hT:=hs.r
 refine Fe Tryz.func284 [.tmp 2] rfl<|Ri fun Z=>Na rfl Z<|cw_seq fun _ hK2=>Ri fun Z=>Qm rfl<|Qq rfl (q_eqsl V rfl)<|Nx Z<|cw_true rfl<|Ri fun Z=>Na rfl Z<|cw_ret ?_
 exact ⟨_,Rt rfl,rfl,hT⟩
theorem clkh {n:Nat} {u:Value} {cs:List Value} (hs:Sat M w) (hr:Rds M w 1 u n cs) (h1:∀ x ∈ cs,x.oneCell'=true) (hn:n≤1000000000):
  Dz 284 #[u] w (fun v w'=>Step Nope M w M w'∧Buf w' M 360 1 v n cs∧∀ g,v.ownBlock=some g→w.heap.size≤g):=by
 obtain ⟨a,c,rfl,_,hnil⟩:=hr.slice hs
 cases a with
 | none=>
  obtain ⟨rfl,rfl⟩:=hnil rfl
  obtain rfl:cs=[]:=List.eq_nil_of_length_eq_zero (by have:=hr.len hs; omega)
  exact (clkh_nil hs).mono fun v w' ⟨h1,h2⟩=>by
   subst h1
   exact ⟨h2,Buf.nil _ _ _ _,fun g hg=>(by cases hg)⟩
 | some p=>exact clkh_some hs hr h1 hn
theorem clxh_some {n c:Nat} {p:Addr} {cs:List Value} (hs:Sat M w) (hr:Rds M w 1 (.slice (some p) n c) n cs) (h1:∀ x ∈ cs,x.oneCell'=true) (hn:n≤1000000000):
  Dz 286 #[.slice (some p) n c] w (fun v w'=>Step Nope M w M w'∧Buf w' M 172 1 v n cs∧∀ g,v.ownBlock=some g→w.heap.size≤g):=by
 have hT:=hs.r
 refine Fe Tryz.func286 [.tmp 2] rfl<|Ri fun Z=>Na rfl Z<|cw_seq fun _ hK2=>Ri fun Z=>Qm rfl<|Qq rfl (q_eqsl V rfl)<|Nx Z<|cw_false rfl<|cw_skip<|hK2 _ _<|Ri fun Z=>as_h rfl (h_buildO (e:=172) (size:=1) (zs:=[]) (cs:=[]) V V V rfl hs rfl rfl fun b1 w1 hs1 ho1 e1=>?_)
 have:=hs1.size
 have:=ho1.1.lt
 refine Qm rfl ?_
 have hbb:=Own.buf ho1 (n:=0) (size:=1) rfl (by decide)
 have hT:=hT.t hs1
 have:=hT.size
 refine as_h rfl (h_append (e:=172) (size:=1) (bytes:=8) V hs1.sat hbb (hr _ _ _ hT) rfl rfl h1 O rfl fun sv w2 hs2 hb hor=>?_)
 have:=hs2.size
 have hfr:∀ g,sv.ownBlock=some g→w.heap.size≤g:=fun g hg=>by
  rcases hor with h | h
  ·rw [h] at hg; have h2:b1=g:=Option.some.inj hg; omega
  ·rw [h] at hg; have h2:=Option.some.inj hg; omega
 have hT:=hT.trans hs2 (fun k hk h=>by have h2:b1=k:=Option.some.inj h; omega)
 rw [Nat.zero_add,List.nil_append] at hb
 refine Na rfl Z<|cw_ret ?_
 exact ⟨_,Rt rfl,hT,hb,hfr⟩
theorem clxh_nil (hs:Sat M w):
  Dz 286 #[.slice none 0 0] w (fun v w'=>v = .slice none 0 0∧Step Nope M w M w'):=by
 have hT:=hs.r
 refine Fe Tryz.func286 [.tmp 2] rfl<|Ri fun Z=>Na rfl Z<|cw_seq fun _ hK2=>Ri fun Z=>Qm rfl<|Qq rfl (q_eqsl V rfl)<|Nx Z<|cw_true rfl<|Ri fun Z=>Na rfl Z<|cw_ret ?_
 exact ⟨_,Rt rfl,rfl,hT⟩
theorem clxh {n:Nat} {u:Value} {cs:List Value} (hs:Sat M w) (hr:Rds M w 1 u n cs) (h1:∀ x ∈ cs,x.oneCell'=true) (hn:n≤1000000000):
  Dz 286 #[u] w (fun v w'=>Step Nope M w M w'∧Buf w' M 172 1 v n cs∧∀ g,v.ownBlock=some g→w.heap.size≤g):=by
 obtain ⟨a,c,rfl,_,hnil⟩:=hr.slice hs
 cases a with
 | none=>
  obtain ⟨rfl,rfl⟩:=hnil rfl
  obtain rfl:cs=[]:=List.eq_nil_of_length_eq_zero (by have:=hr.len hs; omega)
  exact (clxh_nil hs).mono fun v w' ⟨h1,h2⟩=>by
   subst h1
   exact ⟨h2,Buf.nil _ _ _ _,fun g hg=>(by cases hg)⟩
 | some p=>exact clxh_some hs hr h1 hn
theorem th_kids {x:Bt} {bs:List Bt} {ks:List (RT Bt)} {q:Option Addr} (hs:Sat M w) (h:TRep 383 1 EncB M (.node x bs ks) q) (hz:RT.sizes ks≤1000000000):
  Dz 269 #[.pointer q] w (fun v w'=>∃ sa sc M' ka,v = .slice sa ks.length sc∧Step Nope M w M' w'∧Buf w' M' 360 1 (.slice sa ks.length sc) ks.length (ptrs ka)∧TReps 383 1 EncB M' ks ka∧∀ g,(Value.slice sa ks.length sc).ownBlock=some g→w.heap.size≤g):=by
 have hT:=hs.r
 obtain ⟨b,xc,bv,bcs,kv,ka,rfl,hb,hx,hxl,hbs,hbl,hks,hkl⟩:=trep_node.1 h
 obtain ⟨qx,rfl,_⟩:=encB_iff.1 hx
 obtain ⟨ba,bk,rfl,_,_⟩:=hbs.slice
 obtain ⟨kp,kk,rfl,_,_⟩:=hks.slice
 refine Fe Tryz.func269 [.tmp 2] rfl<|Ri fun Z=>Na rfl Z<|cw_seq fun _ hK2=>Ri fun Z=>Qm rfl<|Qq rfl (qn rfl)<|Nx Z<|cw_false rfl<|cw_skip<|hK2 _ _<|Ri fun Z=>Qm rfl<|Qq rfl (q_nilp rfl)<|Qf 3 rfl<|Q1 rfl (BlkR.cell (hs _ _ _ hb) rfl)<|Ca rfl ((clkh hs (hks.rds _) (ptrs_one _) (by have:=RT.sizes_length ks; omega)).mono ?_)
 rintro kv w1 ⟨hs1,hkb,hkf⟩
 have:=hs1.size
 obtain ⟨ksa,ksc,rfl,_,_⟩:=hkb.slice
 refine Na rfl Z<|cw_ret ?_
 have hT:=hT.t hs1
 exact ⟨_,Rt rfl,_,_,_,_,rfl,hT,hkb,hkl.mono' EncB.mono hT.le,hkf⟩
end Go.Proofs.YtnnldppehojffaaGreat
/- Rows turned, and cut, part 1. -/
namespace Go.Proofs.YtnnldppehojffaaGreat
open Go Go.Eng
variable {mb:Option Nat} {w:World} {M:Mem mb}
theorem tail_val {g cap i n:Nat} {z:Int} (h:z.toNat=i+1) (h2:i+1≤n):Value.slice (if cap=z.toNat then some (⟨g,0,none⟩:Addr) else (some (⟨g,0,none⟩:Addr)).map (·.add (z.toNat*1))) ((n:Int).toNat-z.toNat) (cap-z.toNat) = .slice (if cap=i+1 then some ⟨g,0,none⟩ else some ⟨g,i+1,none⟩) (n-(i+1)) (cap-(i+1)):=by
 rw [h,Int.toNat_natCast,Nat.mul_one,Option.map_some,Addr.add_lit,Nat.zero_add]
theorem mid_val {g cap n a b:Nat} (ha:a=n-1) (hb:b=n) (h:n≤cap∧0<n):Value.slice (if cap=((a:Nat):Int).toNat then some (⟨g,0,none⟩:Addr) else (some (⟨g,0,none⟩:Addr)).map (·.add (((a:Nat):Int).toNat*1))) (((b:Nat):Int).toNat-((a:Nat):Int).toNat) (cap-((a:Nat):Int).toNat) = .slice (some ⟨g,n-1,none⟩) 1 (cap-(n-1)):=by
 subst ha; subst hb
 rw [Int.toNat_natCast,Int.toNat_natCast,if_neg O,Nat.mul_one,Option.map_some,Addr.add_lit,Nat.zero_add,show b-(b-1)=1 by omega]
theorem rve_some {g n cap:Nat} {l0:List (Option Addr)} (hs:Sat M w) (hd:PtRow 264 w M g n cap l0) (hn:n≤1000000000):
  Dz 165 #[.slice (some ⟨g,0,none⟩) n cap] w (fun _ w'=>Step (Just g) M w M w'∧PtRow 264 w' M g n cap l0.reverse):=by
 have hT:=Step.refl (Just g) hs
 have hl0:=hd.len
 refine Fe Tryz.func165 [] rfl<|Ri fun Z=>Qm rfl<|Qq rfl (ql rfl)<|Qq rfl (qS rfl)<|Qa rfl<|Na rfl Z<|cw_block<|cw_loop (fun mm l w1=>∃ (i:Nat) (z:Int) (l1:List (Option Addr)),mm=n-i∧2*i≤n∧z=(n:Int)-1-i∧Rvd l0 l1 i∧l=[(0, .slice (some ⟨g,0,none⟩) n cap),(2, .int .i64 i),(3, .int .i64 z)]∧Step (Just g) M w M w1∧PtRow 264 w1 M g n cap l1) (n) [(0, .slice (some ⟨g,0,none⟩) n cap),(2, .int .i64 (0:Nat)),(3, .int .i64 ((n:Int)-1))] (.cons rfl (.cons rfl (.cons rfl (.nil _)))) ?_ ?_
 ·exact ⟨0,(n:Int)-1,l0,by omega,by omega,by omega,rvd_zero _,rfl,hT,hd⟩
 clear hT hd
 rintro mm l w1 ⟨i,z,l1,rfl,hi2,hz,hrv,rfl,hT,hd⟩
 have hl1:=hrv.1
 refine cw_seq fun _ hK2=>Ri fun Z=>Qm rfl<|Qm rfl<|Qq rfl (q_lt rfl rfl)<|Nx Z<|cw_cond rfl (fun hc0=>?_) (fun hc0=>?_)
 ·have hc0:=of_decide_eq_true hc0
  obtain ⟨x,hx⟩:∃ x,l1[(i:Int).toNat]? = some x:=⟨l1[(i:Int).toNat]'O,by simp⟩
  obtain ⟨y,hy⟩:∃ y,l1[z.toNat]? = some y:=⟨l1[z.toNat]'O,by simp⟩
  refine cw_skip<|hK2 _ _<|cw_seq fun _ hK4=>cw_block<|cw_drawn V V V rfl rfl fun K5 hK5=>?_
  have hs1:=Step.drew hT.sat
  refine Gm 0 1 rfl<|Gm 1 3 rfl<|Gm 2 7 rfl<|Gm 3 15 rfl<|Gm 4 31 rfl<|Gm 5 63 rfl<|Gq 6 127 rfl (fun _=>qi 264 1 rfl) ?_
  have hd:=hd.t hs1
  refine G1 7 255 rfl (hd.cell (j:=(z:Int).toNat*1) (by rw [Nat.mul_one]; exact hy))<|Gm 8 511 rfl<|Gm 9 1023 rfl<|Gq 10 2047 rfl (fun _=>qi 264 1 rfl)<|G1 11 4095 rfl (hd.cell (j:=(i:Int).toNat*1) (by rw [Nat.mul_one]; exact hx))<|Gq 12 8191 rfl (fun _=>qi 264 1 rfl)<|G0 13 16383 rfl (Ks [T,T]) (h_storeP (i:=(i:Int).toNat) (q:=y) hs1.sat hd rfl rfl V O fun w2 hs2 hd2=>?_)
  clear hd; have hd:=hd2; clear hd2
  refine ⟨trivial,?_⟩
  refine Gq 14 32767 rfl (fun _=>qi 264 1 rfl)<|G0 15 65535 rfl rfl (h_storeP (i:=z.toNat) (q:=x) hs2.sat hd rfl rfl V O fun w3 hs3 hd3=>?_)
  clear hd; have hd:=hd3; clear hd3
  refine ⟨trivial,?_⟩
  refine Dd V (hK5 _ _ ?_)
  refine hK4 _ _<|cw_region fun _ Z=>Qm rfl<|Qq rfl (qA rfl)<|Qm rfl<|Qq rfl (qS rfl)<|Qa rfl<|Qa rfl<|as_nil (Z _ _ ?_)
  have hT:=hT.t hs1 |>.also hs2 |>.also hs3
  refine ⟨_,_,?_,(.cons rfl (.cons rfl (.cons rfl (.nil _)))),i+1,z-1,_,rfl,by omega,by omega,?_,rfl,hT,hd⟩
  ·omega
  ·exact rvd_step hrv O O hx hy
 ·have hc0:=of_decide_eq_false hc0
  refine cw_exit ?_
  rw [← rvd_done hrv O O]
  exact ⟨_,res_nil,hT,hd⟩
theorem rve_nil (hs:Sat M w):
  Dz 165 #[.slice none 0 0] w (fun _ w'=>Step Nope M w M w'):=by
 have hT:=hs.r
 refine Fe Tryz.func165 [] rfl<|Ri fun Z=>Qm rfl<|Qq rfl (ql rfl)<|Qq rfl (q_congr (qS rfl) (v':= .int .i64 (-1)) rfl)<|Qa rfl<|Na rfl Z<|cw_block<|cw_loop (fun mm l w1=>l=[(0, .slice none 0 0),(2, .int .i64 0),(3, .int .i64 (-1))]∧Step Nope M w M w1) (0) [(0, .slice none 0 0),(2, .int .i64 0),(3, .int .i64 (-1))] (.cons rfl (.cons rfl (.cons rfl (.nil _)))) ?_ ?_
 ·exact ⟨rfl,hT⟩
 clear hT
 rintro mm l w1 ⟨rfl,hT⟩
 refine cw_seq fun _ hK2=>Ri fun Z=>Qm rfl<|Qm rfl<|Qq rfl (qLF rfl)<|Nx Z<|cw_false rfl<|cw_exit ?_
 exact ⟨_,res_nil,hT⟩
theorem rve {n:Nat} {v:Value} {l:List (Option Addr)} (hs:Sat M w) (hb:Buf w M 264 1 v n (ptrs l)) (hn:n≤1000000000):
  Dz 165 #[v] w (fun _ w'=>Step (fun k=>v.ownBlock=some k) M w M w'∧Buf w' M 264 1 v n (ptrs l.reverse)):=by
 have hll:l.length=n:=by have:=hb.1.1; rw [ptrs_length] at this; omega
 obtain ⟨⟨_,h2⟩,_⟩:=id hb
 rcases h2 with ⟨rfl,rfl⟩ | ⟨g,cap,cur,rfl,_⟩
 ·obtain rfl:=List.eq_nil_of_length_eq_zero hll
  exact (rve_nil hs).mono fun _ w' h=>⟨h.any _,hb.then h⟩
 ·exact (rve_some hs hb hn).mono fun _ w' ⟨h1,h2⟩=>⟨h1.wide fun k _ h=>by cases h; rfl,h2⟩
theorem dle {g n cap i:Nat} {l0:List (Option Addr)} (hs:Sat M w) (hb:PtRow 264 w M g n cap l0) (hi:i<n) (hn:n≤1000000000):
  Dz 167 #[.slice (some ⟨g,0,none⟩) n cap, .int .i64 (i:Nat), .int .i64 ((i:Nat)+1)] w (fun v w'=>v = .slice (some ⟨g,0,none⟩) (n-1) cap∧Step (Just g) M w M w'∧PtRow 264 w' M g (n-1) cap (l0.eraseIdx i)):=by
 have hT:=Step.refl (Just g) hs
 have hl0:=hb.len
 have hcap:n≤cap:=by obtain ⟨_,_,h,h2,_⟩:=hb.slice; cases h; exact h2
 refine Fe Tryz.func167 [.tmp 6] rfl<|Ri fun Z=>Nar rfl Z fun Z=>Qm rfl<|Qm rfl<|Qm rfl<|Qm rfl<|Qq rfl (ql rfl)<|Qq rfl (q_slice3 (e:=264) (size:=1) V V rfl rfl rfl rfl O O O O)<|Nx Z<|cw_seq fun _ hK3=>Ri fun Z=>Qm rfl<|Qm rfl<|Qq rfl (qEF rfl)<|Nx Z<|cw_false rfl<|cw_skip<|hK3 _ _<|Ri fun Z=>Qm rfl<|Qq rfl (ql rfl)<|Na rfl Z<|Rv fun Z=>?_
 have hs1:=Step.drew hs
 refine Gm 0 1 rfl<|Gm 1 3 rfl<|Gq 2 7 rfl (fun _=>(q_congr (q_slice (e:=264) (size:=1) (k:= .i64) V V rfl rfl rfl O O O) (v':= .slice (some ⟨g,0,none⟩) i cap) (front_val2 O)))<|Gm 3 15 rfl<|Gm 4 31 rfl<|Gq 5 63 rfl (fun _=>(q_congr (q_slice (e:=264) (size:=1) (k':= .i64) V V rfl rfl rfl O O O) (v':= .slice (if cap=i+1 then some ⟨g,0,none⟩ else some ⟨g,i+1,none⟩) (n-(i+1)) (cap-(i+1))) (tail_val O O))) ?_
 have hb:=hb.t hs1
 have hT:=hT.t hs1
 have hrd:Rd w.drew 1 (.slice (if cap=i+1 then some ⟨g,0,none⟩ else some ⟨g,i+1,none⟩) (n-(i+1)) (cap-(i+1))) (n-(i+1)) ((ptrs l0).drop (i+1)):=by
  have h:=hb.rd.sub ((i+1:Nat):Int) (n:Int) O O O
  exact h.cast (tail_val O O) O (by rw [show (((i+1:Nat):Int)).toNat*1=i+1 by omega]; exact List.take_of_length_le (by simp [ptrs]; omega))
 refine Gh 6 127 rfl rfl (h_appendIn (g:=g) (N:=n) (cap:=cap) (i:=i) (m:=n-(i+1)) (cs:=ptrs l0) (e:=264) (bytes:=8) V hs1.sat hb hrd rfl rfl (fun x hx=>ptrs_one _ x (List.mem_of_mem_drop hx)) O fun w2 hs2 hb2=>?_)
 clear hb; have hb:=hb2; clear hb2
 refine ⟨trivial,?_⟩
 refine Ga 7 255 rfl<|Dx Z<|Ri fun Z=>Qm rfl<|Qm rfl<|Qq rfl (ql rfl)<|Qm rfl<|Qq rfl (q_congr (q_slice (e:=264) (size:=1) (k:= .i64) (k':= .i64) V V rfl rfl rfl O O O) (v':= .slice (some ⟨g,n-1,none⟩) 1 (cap-(n-1))) (mid_val O O O))<|as_h0 (h_clearP (e:=264) V V hs2.sat hb rfl O fun w3 hs3 hb3=>?_)
 clear hb; have hb:=hb3; clear hb3
 refine Nr Z fun Z=>Qm rfl<|Na rfl Z<|cw_ret ?_
 have hT:=hT.also hs2 |>.also hs3
 have hfin:Buf w3 M 264 1 (.slice (some ⟨g,0,none⟩) (n-1) cap) (n-1) (ptrs (l0.eraseIdx i)):=by
  have h:=hb.front1 (j:=n-1) O
  rw [List.take_append_of_le_length (by simp [ptrs]; omega),List.take_append_of_le_length (by simp [ptrs]; omega),List.take_take,Nat.min_self,ptrs_out O O] at h
  exact h
 exact ⟨_,Rt rfl,by rw [show i+(n-(i+1))=n-1 by omega]; rfl,hT,hfin⟩
theorem rvh_some {g n cap:Nat} {l0:List (Option Addr)} (hs:Sat M w) (hd:PtRow 360 w M g n cap l0) (hn:n≤1000000000):
  Dz 270 #[.slice (some ⟨g,0,none⟩) n cap] w (fun _ w'=>Step (Just g) M w M w'∧PtRow 360 w' M g n cap l0.reverse):=by
 have hT:=Step.refl (Just g) hs
 have hl0:=hd.len
 refine Fe Tryz.func270 [] rfl<|Ri fun Z=>Qm rfl<|Qq rfl (ql rfl)<|Qq rfl (qS rfl)<|Qa rfl<|Na rfl Z<|cw_block<|cw_loop (fun mm l w1=>∃ (i:Nat) (z:Int) (l1:List (Option Addr)),mm=n-i∧2*i≤n∧z=(n:Int)-1-i∧Rvd l0 l1 i∧l=[(0, .slice (some ⟨g,0,none⟩) n cap),(2, .int .i64 i),(3, .int .i64 z)]∧Step (Just g) M w M w1∧PtRow 360 w1 M g n cap l1) (n) [(0, .slice (some ⟨g,0,none⟩) n cap),(2, .int .i64 (0:Nat)),(3, .int .i64 ((n:Int)-1))] (.cons rfl (.cons rfl (.cons rfl (.nil _)))) ?_ ?_
 ·exact ⟨0,(n:Int)-1,l0,by omega,by omega,by omega,rvd_zero _,rfl,hT,hd⟩
 clear hT hd
 rintro mm l w1 ⟨i,z,l1,rfl,hi2,hz,hrv,rfl,hT,hd⟩
 have hl1:=hrv.1
 refine cw_seq fun _ hK2=>Ri fun Z=>Qm rfl<|Qm rfl<|Qq rfl (q_lt rfl rfl)<|Nx Z<|cw_cond rfl (fun hc0=>?_) (fun hc0=>?_)
 ·have hc0:=of_decide_eq_true hc0
  obtain ⟨x,hx⟩:∃ x,l1[(i:Int).toNat]? = some x:=⟨l1[(i:Int).toNat]'O,by simp⟩
  obtain ⟨y,hy⟩:∃ y,l1[z.toNat]? = some y:=⟨l1[z.toNat]'O,by simp⟩
  refine cw_skip<|hK2 _ _<|cw_seq fun _ hK4=>cw_block<|cw_drawn V V V rfl rfl fun K5 hK5=>?_
  have hs1:=Step.drew hT.sat
  refine Gm 0 1 rfl<|Gm 1 3 rfl<|Gm 2 7 rfl<|Gm 3 15 rfl<|Gm 4 31 rfl<|Gm 5 63 rfl<|Gq 6 127 rfl (fun _=>qi 360 1 rfl) ?_
  have hd:=hd.t hs1
  refine G1 7 255 rfl (hd.cell (j:=(z:Int).toNat*1) (by rw [Nat.mul_one]; exact hy))<|Gm 8 511 rfl<|Gm 9 1023 rfl<|Gq 10 2047 rfl (fun _=>qi 360 1 rfl)<|G1 11 4095 rfl (hd.cell (j:=(i:Int).toNat*1) (by rw [Nat.mul_one]; exact hx))<|Gq 12 8191 rfl (fun _=>qi 360 1 rfl)<|G0 13 16383 rfl (Ks [T,T]) (h_storeP (i:=(i:Int).toNat) (q:=y) hs1.sat hd rfl rfl V O fun w2 hs2 hd2=>?_)
  clear hd; have hd:=hd2; clear hd2
  refine ⟨trivial,?_⟩
  refine Gq 14 32767 rfl (fun _=>qi 360 1 rfl)<|G0 15 65535 rfl rfl (h_storeP (i:=z.toNat) (q:=x) hs2.sat hd rfl rfl V O fun w3 hs3 hd3=>?_)
  clear hd; have hd:=hd3; clear hd3
  refine ⟨trivial,?_⟩
  refine Dd V (hK5 _ _ ?_)
  refine hK4 _ _<|cw_region fun _ Z=>Qm rfl<|Qq rfl (qA rfl)<|Qm rfl<|Qq rfl (qS rfl)<|Qa rfl<|Qa rfl<|as_nil (Z _ _ ?_)
  have hT:=hT.t hs1 |>.also hs2 |>.also hs3
  refine ⟨_,_,?_,(.cons rfl (.cons rfl (.cons rfl (.nil _)))),i+1,z-1,_,rfl,by omega,by omega,?_,rfl,hT,hd⟩
  ·omega
  ·exact rvd_step hrv O O hx hy
 ·have hc0:=of_decide_eq_false hc0
  refine cw_exit ?_
  rw [← rvd_done hrv O O]
  exact ⟨_,res_nil,hT,hd⟩
theorem rvh_nil (hs:Sat M w):
  Dz 270 #[.slice none 0 0] w (fun _ w'=>Step Nope M w M w'):=by
 have hT:=hs.r
 refine Fe Tryz.func270 [] rfl<|Ri fun Z=>Qm rfl<|Qq rfl (ql rfl)<|Qq rfl (q_congr (qS rfl) (v':= .int .i64 (-1)) rfl)<|Qa rfl<|Na rfl Z<|cw_block<|cw_loop (fun mm l w1=>l=[(0, .slice none 0 0),(2, .int .i64 0),(3, .int .i64 (-1))]∧Step Nope M w M w1) (0) [(0, .slice none 0 0),(2, .int .i64 0),(3, .int .i64 (-1))] (.cons rfl (.cons rfl (.cons rfl (.nil _)))) ?_ ?_
 ·exact ⟨rfl,hT⟩
 clear hT
 rintro mm l w1 ⟨rfl,hT⟩
 refine cw_seq fun _ hK2=>Ri fun Z=>Qm rfl<|Qm rfl<|Qq rfl (qLF rfl)<|Nx Z<|cw_false rfl<|cw_exit ?_
 exact ⟨_,res_nil,hT⟩
theorem rvh {n:Nat} {v:Value} {l:List (Option Addr)} (hs:Sat M w) (hb:Buf w M 360 1 v n (ptrs l)) (hn:n≤1000000000):
  Dz 270 #[v] w (fun _ w'=>Step (fun k=>v.ownBlock=some k) M w M w'∧Buf w' M 360 1 v n (ptrs l.reverse)):=by
 have hll:l.length=n:=by have:=hb.1.1; rw [ptrs_length] at this; omega
 obtain ⟨⟨_,h2⟩,_⟩:=id hb
 rcases h2 with ⟨rfl,rfl⟩ | ⟨g,cap,cur,rfl,_⟩
 ·obtain rfl:=List.eq_nil_of_length_eq_zero hll
  exact (rvh_nil hs).mono fun _ w' h=>⟨h.any _,hb.then h⟩
 ·exact (rvh_some hs hb hn).mono fun _ w' ⟨h1,h2⟩=>⟨h1.wide fun k _ h=>by cases h; rfl,h2⟩
theorem dlh {g n cap i:Nat} {l0:List (Option Addr)} (hs:Sat M w) (hb:PtRow 360 w M g n cap l0) (hi:i<n) (hn:n≤1000000000):
  Dz 272 #[.slice (some ⟨g,0,none⟩) n cap, .int .i64 (i:Nat), .int .i64 ((i:Nat)+1)] w (fun v w'=>v = .slice (some ⟨g,0,none⟩) (n-1) cap∧Step (Just g) M w M w'∧PtRow 360 w' M g (n-1) cap (l0.eraseIdx i)):=by
 have hT:=Step.refl (Just g) hs
 have hl0:=hb.len
 have hcap:n≤cap:=by obtain ⟨_,_,h,h2,_⟩:=hb.slice; cases h; exact h2
 refine Fe Tryz.func272 [.tmp 6] rfl<|Ri fun Z=>Nar rfl Z fun Z=>Qm rfl<|Qm rfl<|Qm rfl<|Qm rfl<|Qq rfl (ql rfl)<|Qq rfl (q_slice3 (e:=360) (size:=1) V V rfl rfl rfl rfl O O O O)<|Nx Z<|cw_seq fun _ hK3=>Ri fun Z=>Qm rfl<|Qm rfl<|Qq rfl (qEF rfl)<|Nx Z<|cw_false rfl<|cw_skip<|hK3 _ _<|Ri fun Z=>Qm rfl<|Qq rfl (ql rfl)<|Na rfl Z<|Rv fun Z=>?_
 have hs1:=Step.drew hs
 refine Gm 0 1 rfl<|Gm 1 3 rfl<|Gq 2 7 rfl (fun _=>(q_congr (q_slice (e:=360) (size:=1) (k:= .i64) V V rfl rfl rfl O O O) (v':= .slice (some ⟨g,0,none⟩) i cap) (front_val2 O)))<|Gm 3 15 rfl<|Gm 4 31 rfl<|Gq 5 63 rfl (fun _=>(q_congr (q_slice (e:=360) (size:=1) (k':= .i64) V V rfl rfl rfl O O O) (v':= .slice (if cap=i+1 then some ⟨g,0,none⟩ else some ⟨g,i+1,none⟩) (n-(i+1)) (cap-(i+1))) (tail_val O O))) ?_
 have hb:=hb.t hs1
 have hT:=hT.t hs1
 have hrd:Rd w.drew 1 (.slice (if cap=i+1 then some ⟨g,0,none⟩ else some ⟨g,i+1,none⟩) (n-(i+1)) (cap-(i+1))) (n-(i+1)) ((ptrs l0).drop (i+1)):=by
  have h:=hb.rd.sub ((i+1:Nat):Int) (n:Int) O O O
  exact h.cast (tail_val O O) O (by rw [show (((i+1:Nat):Int)).toNat*1=i+1 by omega]; exact List.take_of_length_le (by simp [ptrs]; omega))
 refine Gh 6 127 rfl rfl (h_appendIn (g:=g) (N:=n) (cap:=cap) (i:=i) (m:=n-(i+1)) (cs:=ptrs l0) (e:=360) (bytes:=8) V hs1.sat hb hrd rfl rfl (fun x hx=>ptrs_one _ x (List.mem_of_mem_drop hx)) O fun w2 hs2 hb2=>?_)
 clear hb; have hb:=hb2; clear hb2
 refine ⟨trivial,?_⟩
 refine Ga 7 255 rfl<|Dx Z<|Ri fun Z=>Qm rfl<|Qm rfl<|Qq rfl (ql rfl)<|Qm rfl<|Qq rfl (q_congr (q_slice (e:=360) (size:=1) (k:= .i64) (k':= .i64) V V rfl rfl rfl O O O) (v':= .slice (some ⟨g,n-1,none⟩) 1 (cap-(n-1))) (mid_val O O O))<|as_h0 (h_clearP (e:=360) V V hs2.sat hb rfl O fun w3 hs3 hb3=>?_)
 clear hb; have hb:=hb3; clear hb3
 refine Nr Z fun Z=>Qm rfl<|Na rfl Z<|cw_ret ?_
 have hT:=hT.also hs2 |>.also hs3
 have hfin:Buf w3 M 360 1 (.slice (some ⟨g,0,none⟩) (n-1) cap) (n-1) (ptrs (l0.eraseIdx i)):=by
  have h:=hb.front1 (j:=n-1) O
  rw [List.take_append_of_le_length (by simp [ptrs]; omega),List.take_append_of_le_length (by simp [ptrs]; omega),List.take_take,Nat.min_self,ptrs_out O O] at h
  exact h
 exact ⟨_,Rt rfl,by rw [show i+(n-(i+1))=n-1 by omega]; rfl,hT,hfin⟩
end Go.Proofs.YtnnldppehojffaaGreat
/- Heaps without their least element, part 1. -/
namespace Go.Proofs.YtnnldppehojffaaGreat
open Go Go.Eng
variable {mb:Option Nat} {w:World} {M:Mem mb}
theorem sizes_out {α:Type} {l:List (RT α)} {i:Nat} {k:RT α} (h:l[i]? = some k):RT.sizes l=k.size+RT.sizes (l.eraseIdx i):=by
 have h1:=(alls_out h).length_eq
 have h2:=k.size_eq
 rw [RT.alls_length] at h1
 simp only [List.length_cons,List.length_append,RT.alls_length] at h1
 omega
theorem sizes_rev {α:Type} (l:List (RT α)):RT.sizes l.reverse=RT.sizes l:=by
 have h1:=(alls_rev l).length_eq
 rwa [RT.alls_length,RT.alls_length] at h1
theorem te_beside {x:El} {bs:List El} {ks:List (RT El)} {q:Option Addr} (hs:Sat M w) (h:TRep 287 2 EncE M (.node x bs ks) q) (hz:bs.length≤1000000000):
  Dz 222 #[.pointer q] w (fun v w'=>∃ sa sc M' cs,v = .slice sa bs.length sc∧Step Nope M w M' w'∧Buf w' M' 29 2 (.slice sa bs.length sc) bs.length cs∧EncL EncE 2 M' bs cs∧∀ g,(Value.slice sa bs.length sc).ownBlock=some g→w.heap.size≤g):=by
 have hT:=hs.r
 obtain ⟨b,xc,bv,bcs,kv,ka,rfl,hb,hx,hxl,hbs,hbl,hks,hkl⟩:=trep_node.1 h
 obtain rfl:=(show xc=elc _ from hx)
 obtain ⟨ba,bk,rfl,_,_⟩:=hbs.slice
 obtain ⟨kp,kk,rfl,_,_⟩:=hks.slice
 refine Fe Tryz.func222 [.tmp 2] rfl<|Ri fun Z=>Na rfl Z<|cw_seq fun _ hK2=>Ri fun Z=>Qm rfl<|Qq rfl (qn rfl)<|Nx Z<|cw_false rfl<|cw_skip<|hK2 _ _<|Ri fun Z=>Qm rfl<|Qq rfl (q_nilp rfl)<|Qf 3 rfl<|Q1 rfl (BlkR.cell (hs _ _ _ hb) rfl)<|Ca rfl ((clxe hs (hbs.rds _) (by obtain rfl:=encE_list.1 hbl; exact els_one _) hz).mono ?_)
 rintro kv w1 ⟨hs1,hkb,hkf⟩
 have:=hs1.size
 obtain ⟨ksa,ksc,rfl,_,_⟩:=hkb.slice
 refine Na rfl Z<|cw_ret ?_
 have hT:=hT.t hs1
 exact ⟨_,Rt rfl,_,_,_,_,rfl,hT,hkb,hbl.mono EncE.mono hT.le,hkf⟩
theorem th_beside {x:Bt} {bs:List Bt} {ks:List (RT Bt)} {q:Option Addr} (hs:Sat M w) (h:TRep 383 1 EncB M (.node x bs ks) q) (hz:bs.length≤1000000000):
  Dz 275 #[.pointer q] w (fun v w'=>∃ sa sc M' cs,v = .slice sa bs.length sc∧Step Nope M w M' w'∧Buf w' M' 172 1 (.slice sa bs.length sc) bs.length cs∧EncL EncB 1 M' bs cs∧∀ g,(Value.slice sa bs.length sc).ownBlock=some g→w.heap.size≤g):=by
 have hT:=hs.r
 obtain ⟨b,xc,bv,bcs,kv,ka,rfl,hb,hx,hxl,hbs,hbl,hks,hkl⟩:=trep_node.1 h
 obtain ⟨qx,rfl,_⟩:=encB_iff.1 hx
 obtain ⟨ba,bk,rfl,_,_⟩:=hbs.slice
 obtain ⟨kp,kk,rfl,_,_⟩:=hks.slice
 refine Fe Tryz.func275 [.tmp 2] rfl<|Ri fun Z=>Na rfl Z<|cw_seq fun _ hK2=>Ri fun Z=>Qm rfl<|Qq rfl (qn rfl)<|Nx Z<|cw_false rfl<|cw_skip<|hK2 _ _<|Ri fun Z=>Qm rfl<|Qq rfl (q_nilp rfl)<|Qf 2 rfl<|Q1 rfl (BlkR.cell (hs _ _ _ hb) rfl)<|Ca rfl ((clxh hs (hbs.rds _) (encB_one hbl) hz).mono ?_)
 rintro kv w1 ⟨hs1,hkb,hkf⟩
 have:=hs1.size
 obtain ⟨ksa,ksc,rfl,_,_⟩:=hkb.slice
 refine Na rfl Z<|cw_ret ?_
 have hT:=hT.t hs1
 exact ⟨_,Rt rfl,_,_,_,_,rfl,hT,hkb,hbl.mono EncB.mono hT.le,hkf⟩
theorem b_pop {ts:List (RT El)} {x:El} {bs:List El} {ks:List (RT El)} {q:Option Addr} (hs:Sat M w) (h:FRep 266 287 2 EncE M ts q) (ht:ts[leastN ltE (ts.map RT.root) (ts.length-1)]? = some (.node x bs ks)) (hz:RT.sizes ts≤1000000000):
  Dz 155 #[.agg #[.pointer q],mval mb] w (fun v w'=>∃ q M',v = .tuple #[.agg #[.pointer q], .bool true]∧StepC Nope (bpopC ltE ts (.node x bs ks)) M w M' w'∧FRep 266 287 2 EncE M' (bpop ltE ts (.node x bs ks)) q):=by
 have hT:=hs.r
 obtain ⟨l,hc,hk,hll,hlz⟩:=h.len
 obtain ⟨kq,hkq,hkr⟩:=hk.get ht
 have hpos:0<ts.length:=Nat.lt_of_le_of_lt (Nat.zero_le _) (List.getElem?_eq_some_iff.1 ht).1
 have hbl:=leastN_le ltE (ts.map RT.root) (ts.length-1)
 have hszo:=sizes_out ht
 have hksl:=RT.sizes_length ks
 simp only [RT.size] at hszo
 refine Fe Tryz.func155 [.cell 4 153, .tmp 5] rfl<|Ri fun Z=>Bm hs rfl fun b1 M1 w1 hs1 hb1 e1=>?_
 have hk:=hk.mono' EncE.mono hs1.le
 have hkr:=hkr.mono' EncE.mono hs1.le
 have:=hs1.size
 have hT:=hT.t hs1
 have:=hT.size
 refine Al (.agg #[(.pointer none)]) hs1.sat rfl fun br w2 hs2 hor er=>?_
 have:=hs2.size
 have:=hor.1.lt
 refine Nar rfl Z fun Z=>Qf 0 rfl<|Qc 1 rfl (BD hs2 hb1 rfl) ?_
 have hc:=hc.mono hs1.le
 refine Ca rfl ((ce_all hs2.sat hc O).mono ?_)
 rintro av w3 ⟨Ma,hs3,hba,hfa⟩
 clear hc
 have hk:=hk.mono' EncE.mono hs3.le
 have hkr:=hkr.mono' EncE.mono hs3.le
 have:=hs3.size
 rw [hll] at hba
 obtain ⟨ag,ac,rfl⟩:=hba.head0 hpos
 have hfa0:=hfa ag rfl
 replace hfa:w.heap.size≤ag:=Nat.le_trans O hfa0
 refine Na rfl Z<|cw_seq fun _ hK3=>Ri fun Z=>Qm rfl<|Qq rfl (ql rfl)<|Qq rfl (qEF rfl)<|Nx Z<|cw_false rfl<|cw_skip<|hK3 _ _<|Ri fun Z=>Qm rfl<|Qm rfl<|Ca rfl ((b_least hs3.sat hba.rds hk O).mono ?_)
 rintro _ w4 ⟨rfl,hs4⟩
 have hk:=hk.mono' EncE.mono hs4.le
 have hkr:=hkr.mono' EncE.mono hs4.le
 have:=hs4.size
 refine Nar rfl Z fun Z=>Qm rfl<|Qm rfl<|Qq rfl (qi 264 1 rfl) ?_
 have hba:=hba.t hs4
 refine Q1 rfl (Buf.cell hba (u:= .pointer kq) (j:=((leastN ltE (ts.map RT.root) (ts.length-1):Nat):Int).toNat*1) (by rw [show ((leastN ltE (ts.map RT.root) (ts.length-1):Nat):Int).toNat*1=leastN ltE (ts.map RT.root) (ts.length-1) from by omega]; simp [ptrs,hkq]))<|Ca rfl ?_
 have hblt:=hba.lt ag rfl
 refine (te_kids hs4.sat hkr O).mono ?_
 rintro _ w5 ⟨ka_,kc_,Mk,kas,rfl,hs5,hkb,hkk,hkf⟩
 have hk:=hk.mono' EncE.mono hs5.le
 have:=hs5.size
 refine Nar rfl Z fun Z=>Qm rfl<|Ca rfl ((rve hs5.sat hkb O).mono ?_)
 rintro _ w6 ⟨hs6,hkb2⟩
 have hk:=hk.mono' EncE.mono hs6.le
 have hkk:=hkk.mono' EncE.mono hs6.le
 clear hkb; have hkb:=hkb2; clear hkb2
 have hT:=hT.t hs2 |>.t hs3 |>.t hs4 |>.t hs5
 have hT:=hT.trans hs6 (fun k hk h=>by have:=hkf k h; omega)
 have:=hs6.size
 refine Nr Z fun Z=>Qm rfl<|Qm rfl<|Ca rfl ((ce_ofn (l:=kas.reverse) hs6.sat (by rw [List.length_reverse]; exact hkk.length) hkb.rds O).mono ?_)
 rintro _ w7 ⟨qc0,Mc0,rfl,hs7,hco0⟩
 have hk:=hk.mono' EncE.mono hs7.le
 have hkk:=hkk.mono' EncE.mono hs7.le
 have:=hs7.size
 refine Qm rfl<|Qm rfl<|Qm rfl<|Qq rfl (qA rfl) ?_
 have hba:=hba.t hs5 |>.step hs6 (fun g2 hg h=>by have h2:ag=g2:=Option.some.inj hg; have:=hkf _ h; omega) |>.t hs7
 refine Ca rfl ((dle (i:=leastN ltE (ts.map RT.root) (ts.length-1)) hs7.sat hba O O).mono ?_)
 rintro _ w8 ⟨rfl,hs8,hba2⟩
 have hk:=hk.mono' EncE.mono hs8.le
 have hkk:=hkk.mono' EncE.mono hs8.le
 clear hba; have hba:Buf _ _ _ 1 _ _ _:=hba2; clear hba2
 have hT:=hT.t hs7
 have hT:=hT.trans hs8 (fun k hk h=>by have h:k=ag:=h; omega)
 have:=hs8.size
 refine Ca rfl ((ce_ofn (l:=l.eraseIdx (leastN ltE (ts.map RT.root) (ts.length-1))) hs8.sat (by rw [List.length_eraseIdx_of_lt O]; omega) hba.rds O).mono ?_)
 rintro _ w9 ⟨qc1,Mc1,rfl,hs9,hco1⟩
 have hk:=hk.mono' EncE.mono hs9.le
 have hkk:=hkk.mono' EncE.mono hs9.le
 have:=hs9.size
 have hco0:=hco0.mono hs8.le |>.mono hs9.le
 refine Ca rfl ((b_meld_all _ _ _ ks.reverse (ts.eraseIdx (leastN ltE (ts.map RT.root) (ts.length-1))) _ _ hs9.sat ⟨_,hco0,treps_rev hkk⟩ ⟨_,hco1,treps_out _ hk⟩ (Nat.lt_succ_self _) (by rw [sizes_rev]; omega)).mono ?_)
 rintro _ w10 ⟨qm,Mm,rfl,hs10,hm⟩
 have:=hs10.size
 refine Qq rfl (q_build (zs:=[(.pointer none)]) (places:=[(0,1)]) (cs:=[_]) V V rfl rfl) ?_
 have hor:=hor.t hs3 |>.t hs4 |>.t hs5 |>.step hs6 (fun h=>by have:=hkf _ h; omega) |>.t hs7 |>.step hs8 (fun h=>by have h:_=ag:=h; omega) |>.t hs9 |>.t hs10
 refine St hs10.sat hor rfl fun w11 hs11 hor=>?_
 have:=hs11.size
 refine Na rfl Z<|cw_ret ?_
 have hT:=hT.t hs9 |>.t hs10 |>.o hs11
 exact ⟨_,(Rc 1 rfl (OD hor rfl) (Rt rfl)),_,_,rfl,hT.to (by unfold bpopC; simp only [RT.kids]; omega),hm⟩
end Go.Proofs.YtnnldppehojffaaGreat
/- The reference of binomial heaps, second part, part 1. -/
namespace Go.Proofs.YtnnldppehojffaaGreat
open Go Go.Eng
variable {mb:Option Nat} {w:World} {M:Mem mb}
theorem r7_least {ts:List (RT El)} {lv:Value} (hs:Sat M w) (hl:Row T5 6 M ts lv) (hz:ts.length≤1000000000):
  Dz 89 #[lv] w (fun v w'=>v = .int .i64 (leastN ltE (ts.map RT.root) (ts.length-1):Nat)∧Step Nope M w M w'):=by
 have hT:=hs.r
 have hrts:∀ (j:Nat) (t:RT El),ts[j]? = some t→(ts.map RT.root)[j]? = some t.root:=fun j t h=>by rw [List.getElem?_map,h]; rfl
 obtain ⟨la,lc,rfl,_⟩:=hl.slice
 refine Fe Tryz.func89 [.tmp 2] rfl<|Ri fun Z=>Nar rfl Z fun Z=>Na rfl Z<|cw_seq fun _ hK3=>Ri fun Z=>Na rfl Z<|cw_block<|cw_loop (fun mm l1 w1=>∃ (i:Nat) (z:Int),mm=ts.length-i∧1≤i∧(i≤ts.length∨i=1)∧z=(leastN ltE (ts.map RT.root) (i-1):Nat)∧l1=[(0, .slice la ts.length lc),(3, .int .i64 z),(4, .int .i64 i)]∧Step Nope M w M w1) (ts.length-1) [(0, .slice la ts.length lc),(3, .int .i64 (0:Nat)),(4, .int .i64 (1:Nat))] (.cons rfl (.cons rfl (.cons rfl (.nil _)))) ?_ ?_
 ·exact ⟨1,_,by omega,by omega,by omega,rfl,rfl,hT⟩
 clear hT
 rintro mm l1 w1 ⟨i,z,rfl,hi1,hi,rfl,rfl,hT⟩
 refine cw_seq fun _ hK5=>Ri fun Z=>Qm rfl<|Qm rfl<|Qq rfl (ql rfl)<|Qq rfl (q_lt rfl rfl)<|Nx Z<|cw_cond rfl (fun hc0=>?_) (fun hc0=>?_)
 ·have hlt:i<ts.length:=by have:=of_decide_eq_true hc0; omega
  obtain ⟨k,hkk⟩:∃ k,ts[i]? = some k:=⟨ts[i],by simp⟩
  have hbl:=leastN_le ltE (ts.map RT.root) (i-1)
  obtain ⟨kb,hkb0⟩:∃ k,ts[leastN ltE (ts.map RT.root) (i-1)]? = some k:=⟨ts[leastN ltE (ts.map RT.root) (i-1)]'O,by simp⟩
  obtain ⟨g,o,kc,e_,_,hk,hat⟩:=hl.get t5_ok hkk
  obtain ⟨g_,o_,kbc,e2_,_,hkb,hatb⟩:=hl.get t5_ok hkb0
  subst e_
  cases e2_
  obtain ⟨_,_,_,_,_,_,rfl⟩:=hk.shape
  obtain ⟨_,_,_,_,_,_,rfl⟩:=hkb.shape
  have hstep:=leastN_step (lt:=ltE) (i:=i-1) (hrts _ k (by rw [show i-1+1=i by omega]; exact hkk)) (hrts _ kb hkb0)
  rw [show i-1+1=i by omega] at hstep
  refine cw_skip<|hK5 _ _<|cw_seq fun _ hK7=>cw_block<|Rv fun Z=>?_
  have hs1:=Step.drew hT.sat
  have:=hs1.size
  refine Gm 0 1 rfl<|Gm 1 3 rfl<|Gq 2 7 rfl (fun _=>qi 196 6 rfl)<|Gf 3 15 1 rfl ?_
  have hT:=hT.t hs1
  refine Gc 4 31 2 rfl (cells_in (j:=1) (k:=2) (hat _ _ hT.le hT.sat) rfl rfl)<|Gm 5 63 rfl<|Gm 6 127 rfl<|Gq 7 255 rfl (fun _=>qi 196 6 rfl)<|Gf 8 511 1 rfl<|Gc 9 1023 2 rfl (cells_in (j:=1) (k:=2) (hatb _ _ hT.le hT.sat) rfl rfl)<|Gh 10 2047 rfl (Ks [T,T]) (h_call V rfl ?_)
  refine (ref_less (a:=k.root) (b:=kb.root) hs1.sat).mono ?_
  rintro _ w2 ⟨rfl,hs2⟩
  have:=hs2.size
  refine ⟨trivial,?_⟩
  refine Ga 11 4095 rfl<|Dx Z<|Ri fun Z=>Qm rfl<|Nx Z ?_
  have hT:=hT.t hs2
  refine cw_cond rfl (fun hc1=>?_) (fun hc1=>?_)
  ·rw [if_pos hc1] at hstep
   refine cw_region fun _ Z=>Qm rfl<|Qa rfl<|as_nil (Z _ _ ?_)
   refine hK7 _ _<|cw_region fun _ Z=>Qm rfl<|Qq rfl (qA rfl)<|Qa rfl<|as_nil (Z _ _ ?_)
   refine ⟨_,_,?_,(.cons rfl (.cons rfl (.cons rfl (.nil _)))),i+1,_,rfl,by omega,by omega,?_,rfl,hT.forget⟩
   ·omega
   ·rw [show i+1-1=i by omega,hstep]
  ·rw [if_neg (by rw [hc1]; decide)] at hstep
   refine cw_skip<|hK7 _ _<|cw_region fun _ Z=>Qm rfl<|Qq rfl (qA rfl)<|Qa rfl<|as_nil (Z _ _ ?_)
   refine ⟨_,_,?_,(.cons rfl (.cons rfl (.cons rfl (.nil _)))),i+1,_,rfl,by omega,by omega,?_,rfl,hT.forget⟩
   ·omega
   ·rw [show i+1-1=i by omega,hstep]
 ·have hge:i-1=ts.length-1:=by have:=of_decide_eq_false hc0; omega
  refine cw_exit<|hK3 _ _<|Ri fun Z=>Qm rfl<|Na rfl Z<|cw_ret ?_
  exact ⟨_,Rt rfl,by rw [hge]; rfl,hT.forget⟩
theorem r7_min {ts:List (RT El)} {x:El} {bs:List El} {ks:List (RT El)} {lv:Value} (hs:Sat M w) (hl:Row T5 6 M ts lv) (ht:ts[leastN ltE (ts.map RT.root) (ts.length-1)]? = some (.node x bs ks)) (hz:ts.length≤1000000000):
  Dz 72 #[.agg #[lv]] w (fun v w'=>v = .tuple #[.agg (elc x).toArray,wv (ts.length-1)]∧Step Nope M w M w'):=by
 have hT:=hs.r
 obtain ⟨la,lc,rfl,hlc⟩:=hl.slice
 obtain ⟨g,o,tc,e_,_,hk0,hat⟩:=hl.get t5_ok ht
 subst e_
 obtain ⟨ba,ka,bc,kc,rfl,hB,hQ⟩:=t5_iff.1 hk0
 have hpos:0<ts.length:=Nat.lt_of_le_of_lt (Nat.zero_le _) (List.getElem?_eq_some_iff.1 ht).1
 have hbl:=leastN_le ltE (ts.map RT.root) (ts.length-1)
 refine Fe Tryz.func72 [.cell 2 29, .tmp 3] rfl<|Ri fun Z=>Bm hs rfl fun b1 M1 w1 hs1 hb1 e1=>?_
 have:=hs1.size
 have hT:=hT.t hs1
 have:=hT.size
 refine Al (.agg #[(.int .i64 0),(.int .i64 0)]) hs1.sat rfl fun br w2 hs2 hor er=>?_
 have:=hs2.size
 have:=hor.1.lt
 refine Na rfl Z<|cw_seq fun _ hK2=>Ri fun Z=>Qf 0 rfl<|Q1 rfl (BC hs2 hb1 rfl)<|Qq rfl (ql rfl)<|Qq rfl (qEF rfl)<|Nx Z<|cw_false rfl<|cw_skip<|hK2 _ _<|Rv fun Z=>?_
 have hs3:=Step.drew hs2.sat
 have:=hs3.size
 refine Gf 0 1 0 rfl<|G1 1 3 rfl (BC hs3 hb1 rfl)<|Gf 2 7 0 rfl<|G1 3 15 rfl (BC hs3 hb1 rfl)<|Gf 8 271 0 rfl<|G1 9 783 rfl (BC hs3 hb1 rfl)<|Gq 10 1807 rfl (fun _=>ql rfl)<|Gq 11 3855 rfl (fun _=>qS rfl)<|Gh 4 3871 rfl (Ks [F,T,F]) (h_call V rfl ?_)
 have hl:=hl.mono t5_ok hs1.le
 refine (r7_least hs3.sat hl O).mono ?_
 rintro _ w4 ⟨rfl,hs4⟩
 have:=hs4.size
 have hT:=hT.t hs2 |>.t hs3 |>.t hs4
 have hor:=hor.t hs3 |>.t hs4
 refine ⟨(by repeat' first | exact trivial | exact BC hs4 hb1 rfl | refine And.intro ?_ ?_),?_⟩
 refine Gq 5 3903 rfl (fun _=>qi 196 6 rfl)<|Gf 6 3967 1 rfl<|Gc 7 4095 2 rfl (cells_in (j:=1) (k:=2) (hat _ _ hT.le hT.sat) rfl rfl)<|G0 12 8191 rfl (Ks [T,F,T]) (h_store hs4.sat hor rfl rfl rfl V rfl rfl rfl fun w5 hs5 hn5=>?_)
 clear hor; have hor:=hn5; clear hn5
 have:=hs5.size
 have hT:=hT.o hs5
 refine ⟨(by repeat' first | exact trivial | exact BC hs5 hb1 rfl | refine And.intro ?_ ?_),?_⟩
 refine Ga 13 16383 rfl<|Dx Z<|cw_ret ?_
 exact ⟨_,(Rc 2 rfl (OD hor rfl) (Rt rfl)),tup_w O O,hT.forget⟩
theorem r7_size {ts:List (RT El)} {lv:Value} (hs:Sat M w) (hl:Row T5 6 M ts lv) (hz:RT.sizes ts≤1000000000):
  Dz 66 #[.agg #[lv]] w (fun v w'=>v = .int .i64 (RT.sizes ts:Nat)∧Step Nope M w M w'):=by
 have hT:=hs.r
 obtain ⟨la,lc,rfl,hlc⟩:=hl.slice
 have hlz:=RT.sizes_length ts
 refine Fe Tryz.func66 [.tmp 2] rfl<|Ri fun Z=>Bm hs rfl fun b1 M1 w1 hs1 hb1 e1=>?_
 have:=hs1.size
 refine Nar rfl Z fun Z=>Na rfl Z<|cw_seq fun _ hK3=>Ri fun Z=>Na rfl Z<|cw_block ?_
 have hT:=hT.t hs1
 refine cw_loop (fun mm l1 w1=>∃ (i:Nat) (z:Int),mm=ts.length-i∧i≤ts.length∧z=(RT.sizes (ts.take i):Nat)∧l1=[(1, .pointer (some ⟨b1,0,none⟩)),(3, .int .i64 z),(4, .int .i64 i)]∧Step Nope M w M1 w1) (ts.length) [(1, .pointer (some ⟨b1,0,none⟩)),(3, .int .i64 (0:Nat)),(4, .int .i64 (0:Nat))] (.cons rfl (.cons rfl (.cons rfl (.nil _)))) ?_ ?_
 ·exact ⟨0,_,rfl,Nat.zero_le _,rfl,rfl,hT⟩
 clear hT
 rintro mm l1 w1 ⟨i,z,rfl,hi,rfl,rfl,hT⟩
 refine cw_seq fun _ hK5=>Ri fun Z=>Qm rfl<|Qf 0 rfl<|Q1 rfl (BC hT hb1 rfl)<|Qq rfl (ql rfl)<|Qq rfl (q_lt rfl rfl)<|Nx Z<|cw_cond rfl (fun hc0=>?_) (fun hc0=>?_)
 ·have hlt:i<ts.length:=by have:=of_decide_eq_true hc0; omega
  obtain ⟨k,hkk⟩:∃ k,ts[i]? = some k:=⟨ts[i],by simp⟩
  obtain ⟨g,o,kc,e_,_,hk,hat⟩:=hl.get t5_ok hkk
  subst e_
  obtain ⟨_,_,_,_,_,_,rfl⟩:=hk.shape
  have hks1:=RT.sizes_take hkk
  have hks2:=RT.sizes_take_le ts (i+1)
  refine cw_skip<|hK5 _ _<|cw_seq fun _ hK7=>cw_block<|cw_region fun _ Z=>Qm rfl<|Qf 0 rfl<|Q1 rfl (BC hT hb1 rfl)<|Qm rfl<|Qq rfl (qi 196 6 rfl)<|Qf 5 rfl<|Q1 rfl ((hat _ _ hT.le hT.sat).2 5 _ rfl)<|Qq rfl (qA rfl)<|Qa rfl<|as_nil (Z _ _ ?_)
  refine hK7 _ _<|cw_region fun _ Z=>Qm rfl<|Qq rfl (qA rfl)<|Qa rfl<|as_nil (Z _ _ ?_)
  refine ⟨_,_,?_,(.cons rfl (.cons rfl (.cons rfl (.nil _)))),i+1,_,rfl,by omega,?_,rfl,hT⟩
  ·omega
  ·omega
 ·have hge:i=ts.length:=by have:=of_decide_eq_false hc0; omega
  refine cw_exit<|hK3 _ _<|Ri fun Z=>Qm rfl<|Na rfl Z<|cw_ret ?_
  subst hge
  exact ⟨_,Rt rfl,by rw [List.take_of_length_le O]; rfl,hT.forget⟩
theorem r7_pop {ts:List (RT El)} {x:El} {bs:List El} {ks:List (RT El)} {lv:Value} (hs:Sat M w) (hl:Row T5 6 M ts lv) (ht:ts[leastN ltE (ts.map RT.root) (ts.length-1)]? = some (.node x bs ks)) (hz:RT.sizes ts≤1000000000):
  Dz 56 #[.agg #[lv]] w (fun v w'=>∃ v' M',v = .tuple #[.agg #[v'],wv (bpopC ltE ts (.node x bs ks))]∧Step Nope M w M' w'∧Row T5 6 M' (bpop ltE ts (.node x bs ks)) v'):=by
 have hT:=hs.r
 obtain ⟨la,lc,rfl,hlc⟩:=hl.slice
 obtain ⟨g,o,tc,e_,_,hk0,hat⟩:=hl.get t5_ok ht
 subst e_
 obtain ⟨ba,ka,bc,kc,rfl,hB,hQ⟩:=t5_iff.1 hk0
 have hpos:0<ts.length:=Nat.lt_of_le_of_lt (Nat.zero_le _) (List.getElem?_eq_some_iff.1 ht).1
 have hbl:=leastN_le ltE (ts.map RT.root) (ts.length-1)
 have hszo:=sizes_out ht
 simp only [RT.size] at hszo
 have hksl:=RT.sizes_length ks
 have htsl:=RT.sizes_length ts
 have hl0:=hl
 have hB0:=hB
 have hQ0:=hQ
 refine Fe Tryz.func56 [.cell 2 35, .tmp 3] rfl<|Ri fun Z=>Bm hs rfl fun b1 M1 w1 hs1 hb1 e1=>?_
 have:=hs1.size
 have hT:=hT.t hs1
 have:=hT.size
 refine Al (.agg #[(.slice none 0 0)]) hs1.sat rfl fun br w2 hs2 hor er=>?_
 have:=hs2.size
 have:=hor.1.lt
 refine Na rfl Z<|cw_seq fun _ hK2=>Ri fun Z=>Qf 0 rfl<|Q1 rfl (BC hs2 hb1 rfl)<|Qq rfl (ql rfl)<|Qq rfl (qEF rfl)<|Nx Z<|cw_false rfl<|cw_skip<|hK2 _ _<|Ri fun Z=>Qf 0 rfl<|Q1 rfl (BC hs2 hb1 rfl) ?_
 have hl:=hl.mono t5_ok hs1.le
 refine Ca rfl ((r7_least hs2.sat hl O).mono ?_)
 rintro _ w3 ⟨rfl,hs3⟩
 have:=hs3.size
 refine Nar rfl Z fun Z=>Na rfl Z<|cw_seq fun _ hK6=>Ri fun Z=>Qf 0 rfl<|Q1 rfl (BC hs3 hb1 rfl)<|Qm rfl<|Qq rfl (qi 196 6 rfl)<|Qf 4 rfl ?_
 have hT:=hT.t hs2 |>.t hs3
 refine Q1 rfl ((hat _ _ hT.le hT.sat).2 4 _ rfl)<|Qq rfl (ql rfl)<|Qq rfl (qS rfl)<|Na rfl Z<|cw_block ?_
 have hB:=hB.mono encE_ok hs1.le
 have hQ:=hQ.mono t5_ok hs1.le
 have hor:=hor.t hs3
 refine cw_loop (fun mm l1 wL=>∃ (j:Nat) (z:Int) (vk:Value) (ML:Mem mb),j=mm∧z=(j:Int)-1∧j≤ks.length∧l1=[(1, .pointer (some ⟨b1,0,none⟩)),(2, .pointer (some ⟨br,0,none⟩)),(4, .int .i64 (leastN ltE (ts.map RT.root) (ts.length-1):Nat)),(5,vk),(6, .int .i64 z)]∧Step Nope M w ML wL∧w3.heap.size≤wL.heap.size∧RowB 196 T5 6 w3.heap.size wL ML ((ks.drop j).reverse) vk∧ML b1=some ([.slice (some ⟨g,o,none⟩) ts.length lc],35)∧Own wL ML br [.slice none 0 0] 35) (ks.length) [(1, .pointer (some ⟨b1,0,none⟩)),(2, .pointer (some ⟨br,0,none⟩)),(4, .int .i64 (leastN ltE (ts.map RT.root) (ts.length-1):Nat)),(5, .slice none 0 0),(6, .int .i64 ((ks.length:Int)-1))] (.cons rfl (.cons rfl (.cons rfl (.cons rfl (.cons rfl (.nil _)))))) ?_ ?_
 ·exact ⟨ks.length,_,_,_,rfl,rfl,Nat.le_refl _,rfl,hT,Nat.le_refl _,by rw [List.drop_length]; exact RowB.none,hb1,hor⟩
 have hBw:w.heap.size≤w3.heap.size∧br<w3.heap.size∧w.heap.size≤br:=⟨hT.size,hor.1.lt,by omega⟩
 clear hT hb1 hor hl hB hQ
 have hl:=hl0
 have hB:=hB0
 have hQ:=hQ0
 rintro mm l1 wL ⟨j,z,vk,ML,rfl,hjz,hj,rfl,hT,hwL,hkd,hb1,hor⟩
 obtain ⟨ak,ck,rfl⟩:=hkd.slice
 refine cw_seq fun _ hK8=>Ri fun Z=>Qm rfl<|Qq rfl (q_ge rfl rfl)<|Nx Z ?_
 have hl:=hl.mono t5_ok hT.le
 refine cw_cond rfl (fun hc1=>?_) (fun hc1=>?_)
 ·have hc1:=of_decide_eq_true hc1
  obtain ⟨j,rfl⟩:∃ j',j=j'+1:=⟨j-1,by omega⟩
  obtain ⟨k,hkk0⟩:∃ k,ks[j]? = some k:=⟨ks[j]'O,by simp⟩
  obtain ⟨gk,ok,kc,e_,_,hkk,hatk⟩:=hQ0.get t5_ok hkk0
  subst e_
  have hkk:=t5_ok.mono _ _ _ _ hT.le hkk
  obtain ⟨_,_,_,_,_,_,rfl⟩:=hkk.shape
  have hlk:((ks.drop (j+1)).reverse).length+[k].length=ks.length-j:=by rw [List.length_reverse,List.length_drop]; simp; omega
  refine cw_skip<|hK8 _ _<|cw_seq fun _ hK10=>cw_block<|cw_region fun _ Z=>Qm rfl<|Qf 0 rfl<|Q1 rfl (BC hT hb1 rfl)<|Qm rfl<|Qq rfl (qi 196 6 rfl)<|Qf 4 rfl<|Q1 rfl ((hat _ _ hT.le hT.sat).2 4 _ rfl)<|Qm rfl<|Qq rfl (qi 196 6 rfl)<|Qc 6 rfl (show cellsAre gk (ok+z.toNat*6) 6 _ _ by rw [show z.toNat=j by omega]; exact hatk _ _ hT.le hT.sat)<|as_h rfl (h_buildM (e:=196) (size:=6) (zs:=[(.int .i64 0),(.int .i64 0),(.int .i64 0),(.slice none 0 0),(.slice none 0 0),(.int .i64 0)]) (cs:=[_,_,_,_,_,_]) V V V rfl hT.sat rfl rfl rfl fun bK MK w4 hs4 hrK eK=>?_)
  have:=hs4.size
  have hkd:=hkd.then t5_ok hs4
  have hkk:=t5_ok.mono _ _ _ _ hs4.le hkk
  refine as_h rfl (h_appB t5_ok (e:=196) (bytes:=80) V hs4.sat hkd (Row.one t5_ok hrK hkk) rfl rfl (by have:=hlk; omega) rfl O fun vkd2 w5 hs5 hkd2 hor5 hfl5=>?_)
  have hT:=hT.t hs4
  have hT:=hT.trans hs5 (fun k hk h=>by have:=hfl5 _ h; omega)
  obtain ⟨akd2,ckd2,rfl⟩:=hkd2.slice
  have:=hs5.size
  refine Qa rfl<|as_nil (Z _ _ ?_)
  refine hK10 _ _<|cw_region fun _ Z=>Qm rfl<|Qq rfl (qS rfl)<|Qa rfl<|as_nil (Z _ _ ?_)
  have hl:=hl.mono t5_ok hs4.le
  have hb1:=hs4.le _ _ hb1
  have hor:=hor.t hs4 |>.step hs5 (fun h=>by have:=hfl5 _ h; omega)
  refine ⟨_,_,?_,(.cons rfl (.cons rfl (.cons rfl (.cons rfl (.cons rfl (.nil _)))))),j,_,_,_,rfl,?_,by omega,rfl,hT,by omega,hkd2.cast ?_,hb1,hor⟩
  ·omega
  ·omega
  ·rw [← List.reverse_cons,List.drop_eq_getElem_cons (i:=j) O,show ks[j]=k from by rw [List.getElem?_eq_getElem O] at hkk0; exact Option.some.inj hkk0]
 ·have hc1:=of_decide_eq_false hc1
  obtain rfl:j=0:=by omega
  rw [List.drop_zero] at hkd
  refine cw_exit<|hK6 _ _<|Ri fun Z=>?_
  obtain ⟨Mz,hT,hleMz,hkz,hsmMz⟩:=hkd.freeze t5_ok hT O
  have hb1:=hleMz _ _ hb1
  have hor:=hor.of_same (hsmMz _ (hkd.off O))
  have hr0:RowB 196 T5 6 w3.heap.size wL Mz ([]:List (RT El)) (.slice none 0 0):=RowB.none
  refine Nar rfl Z fun Z=>Qm rfl<|Qf 0 rfl<|Q1 rfl (BC hT hb1 rfl)<|Qm rfl<|Qq rfl (q_slice (e:=196) (size:=6) (k:= .i64) V V rfl rfl rfl O O O) ?_
  have hl:=hl.mono t5_ok hleMz
  refine as_h rfl (h_appB t5_ok (e:=196) (bytes:=80) V hT.sat hr0 ((hl.sub 0 (leastN ltE (ts.map RT.root) (ts.length-1):Nat) O O O).cast (show _=ts.take (leastN ltE (ts.map RT.root) (ts.length-1)) by simp)) rfl rfl (by simp only [List.length_nil,List.length_take]; omega) rfl O fun vr1 w6 hs6 hr1 hor6 hfl6=>?_)
  have hT:=hT.trans hs6 (fun k hk h=>by have:=hfl6 _ h; omega)
  obtain ⟨ar1,cr1,rfl⟩:=hr1.slice
  have:=hs6.size
  refine Nar rfl Z fun Z=>Qm rfl<|Qf 0 rfl<|Q1 rfl (BC hs6 hb1 rfl)<|Qm rfl<|Qq rfl (qA rfl)<|Qq rfl (q_slice (e:=196) (size:=6) (k':= .i64) V V rfl rfl rfl O O O)<|as_h rfl (h_appB t5_ok (e:=196) (bytes:=80) V hs6.sat hr1 ((hl.sub ((leastN ltE (ts.map RT.root) (ts.length-1):Nat)+1) (ts.length:Nat) O O O).cast (show _=ts.drop (leastN ltE (ts.map RT.root) (ts.length-1)+1) by rw [show (((leastN ltE (ts.map RT.root) (ts.length-1):Nat):Int)+1).toNat=leastN ltE (ts.map RT.root) (ts.length-1)+1 by omega,Int.toNat_natCast]; exact List.take_of_length_le (by simp))) rfl rfl (by simp only [List.length_append,List.length_nil,List.length_take,List.length_drop]; omega) rfl O fun vr2 w7 hs7 hr2 hor7 hfl7=>?_)
  have hT:=hT.trans hs7 (fun k hk h=>by have:=hfl7 _ h; omega)
  obtain ⟨ar2,cr2,rfl⟩:=hr2.slice
  have:=hs7.size
  refine Nar rfl Z fun Z=>?_
  have hr2:=hr2.cast (show _=ts.eraseIdx (leastN ltE (ts.map RT.root) (ts.length-1)) by rw [List.nil_append,List.eraseIdx_eq_take_drop_succ])
  obtain ⟨My,hT,hleMy,hrz,hsmMy⟩:=hr2.freeze t5_ok hT O
  have hb1:=hleMy _ _ hb1
  have hor:=hor.step hs6 (fun h=>by have:=hfl6 _ h; omega) |>.step hs7 (fun h=>by have:=hfl7 _ h; omega)
  have hor:=hor.of_same (hsmMy _ (hr2.off O))
  refine Qm rfl<|Qm rfl ?_
  have hkz:=hkz.mono t5_ok hleMy
  refine Ca rfl ((r7_trees (a:=ks.reverse) (b:=(ts.eraseIdx (leastN ltE (ts.map RT.root) (ts.length-1)))) hT.sat hkz hrz (by rw [sizes_rev]; omega)).mono ?_)
  rintro _ w8 ⟨mv,Mm,rfl,hs8,hm⟩
  obtain ⟨ma,mc,rfl,_⟩:=hm.slice
  have:=hs8.size
  refine Qm rfl<|Qe rfl<|Qe rfl<|Qa rfl<|Na rfl Z<|Rv fun Z=>?_
  have hs9:=Step.drew hs8.sat
  have:=hs9.size
  refine Gm 0 1 rfl<|Gq 1 3 rfl (fun _=>(q_build (zs:=[(.slice none 0 0)]) (places:=[(0,1)]) (cs:=[_]) V V rfl rfl))<|Gm 2 7 rfl<|Gf 3 15 0 rfl ?_
  have hb1:=hs8.le _ _ hb1
  refine G1 4 31 rfl (BC hs9 hb1 rfl)<|Gq 5 63 rfl (fun _=>ql rfl)<|Gq 6 127 rfl (fun _=>q_addwi rfl rfl)<|Gq 7 255 rfl (fun _=>(q_subwi (b:=1) rfl rfl O)) ?_
  have hor:=hor.t hs8 |>.t hs9
  refine G0 8 511 rfl (Ks [F]) (h_store hs9.sat hor rfl rfl rfl V rfl rfl rfl fun w10 hs10 hn10=>?_)
  clear hor; have hor:=hn10; clear hn10
  have:=hs10.size
  have hT:=hT.t hs8 |>.t hs9 |>.o hs10
  refine ⟨(by repeat' first | exact trivial | exact BC hs10 hb1 rfl | refine And.intro ?_ ?_),?_⟩
  refine Ga 9 1023 rfl<|Dx Z<|cw_ret ?_
  exact ⟨_,(Rc 1 rfl (OD hor rfl) (Rt rfl)),_,_,tup_eq (by unfold bpopC; simp only [RT.kids]; omega),hT,hm⟩
end Go.Proofs.YtnnldppehojffaaGreat
/- The reference of skew binomial heaps, part 1. -/
namespace Go.Proofs.YtnnldppehojffaaGreat
open Go Go.Eng
variable {mb:Option Nat} {w:World} {M:Mem mb}
theorem q_addiw {P:Program} {l:Env} {x y:Operand} {ty t u:TypeId} {w:World} {a b:Nat} {z:Int} (hx:opv l x=some (.int .i64 z)) (hy:opv l y=some (wv b)) (hz:z=(a:Nat)):Quiet P l (.binOp .add t x y u) ty w (wv (a+b)):=by
 have h:=q_add (P:=P) (ty:=ty) (t:=t) (u:=u) (w:=w) hx hy
 rw [hz,Int.add_comm,wrap_add_left,Int.add_comm] at h
 exact h
theorem r9_insert_n {x:El} {ts:List (RT El)} {lv:Value} (hs:Sat M w) (hl:Row T5 6 M ts lv) (hz1:ts.length≤1):
  Dz 44 #[.agg (elc x).toArray, .agg #[lv]] w (fun v w'=>∃ v' M',v = .tuple #[.agg #[v'],wv (1)]∧Step Nope M w M' w'∧Row T5 6 M' (RT.leaf x::ts) v'):=by
 have hT:=hs.r
 obtain ⟨la,lc,rfl,_⟩:=hl.slice
 refine Fe Tryz.func44 [.cell 4 39, .tmp 5] rfl<|Ri fun Z=>Bm hs rfl fun b1 M1 w1 hs1 hb1 e1=>?_
 have hz1:=hs1.size
 refine Bm hs1.sat rfl fun b2 M2 w2 hs2 hb2 e2=>?_
 have:=hs2.size
 have hT:=hT.t hs1 |>.t hs2
 have:=hT.size
 refine Al (.agg #[(.slice none 0 0)]) hs2.sat rfl fun br w3 hs3 hor er=>?_
 have:=hs3.size
 have:=hor.1.lt
 refine Na rfl Z<|cw_seq fun _ hK2=>Rv fun Z=>?_
 have hs4:=Step.drew hs3.sat
 have:=hs4.size
 refine Gf 0 1 0 rfl<|G1 1 3 rfl (BC hs4 hb2 rfl)<|Gq 2 7 rfl (fun _=>ql rfl)<|Gq 3 15 rfl (fun _=>qGF rfl)<|Gm 4 31 rfl<|Dgs 5 63 rfl V rfl rfl<|Dgs 6 127 rfl V rfl rfl<|Dgs 7 255 rfl V rfl rfl<|Dgs 8 511 rfl V rfl rfl<|Dgs 9 1023 rfl V rfl rfl<|Dgs 10 2047 rfl V rfl rfl<|Dgs 11 4095 rfl V rfl rfl<|Dgs 12 8191 rfl V rfl rfl<|Dgs 13 16383 rfl V rfl rfl<|Dgs 14 32767 rfl V rfl rfl<|Dgs 15 65535 rfl V rfl rfl<|Gq 16 131071 rfl (fun _=>q_pick_f rfl rfl)<|Dx Z<|cw_false rfl<|cw_skip<|hK2 _ _<|Ri fun Z=>?_
 have hb1:=hs2.le _ _ hb1
 refine Qc 2 rfl (BD hs4 hb1 rfl)<|Ca rfl ((r5_leaf (x:=x) hs4.sat).mono ?_)
 rintro _ w5 ⟨cl,rfl,hs5,hlf⟩
 obtain ⟨fba,fka,fnb,fbc,fnk,fkc,rfl⟩:=hlf.shape
 have:=hs5.size
 refine as_h rfl (h_buildO (e:=196) (size:=6) (zs:=[(.int .i64 0),(.int .i64 0),(.int .i64 0),(.slice none 0 0),(.slice none 0 0),(.int .i64 0)]) (cs:=[_,_,_,_,_,_]) V V V rfl hs5.sat rfl rfl fun bK w6 hs6 hoK eK=>?_)
 have:=hs6.size
 have:=hoK.1.lt
 refine Nar rfl Z fun Z=>Qm rfl<|Qf 0 rfl<|Q1 rfl (BC hs6 hb2 rfl) ?_
 have hl:=hl.mono t5_ok hs1.le |>.mono t5_ok hs2.le
 have hT:=hT.t hs3 |>.t hs4 |>.t hs5 |>.t hs6
 refine as_h rfl (h_cons t5_ok (e:=196) (bytes:=80) V hT hoK hlf hl rfl rfl (by have:=hz1; omega) rfl O fun vk9 Mk9 w7 hT hle7 hown7 hz7 hk9=>?_)
 have hb1:=hle7 _ _ hb1
 have hb2:=hle7 _ _ hb2
 have hor:=hor.t hs4 |>.t hs5 |>.t hs6
 have hor:=hown7 _ _ _ O hor
 have hlf:=t5_ok.mono _ _ _ _ hle7 hlf
 obtain ⟨ak9,ck9,rfl,_⟩:=hk9.slice
 refine Nar rfl Z fun Z=>Qm rfl<|Qq rfl (q_build (zs:=[(.slice none 0 0)]) (places:=[(0,1)]) (cs:=[_]) V V rfl rfl)<|St hT.sat hor rfl fun w8 hs8 hor=>?_
 have:=hs8.size
 refine Na rfl Z<|cw_ret ?_
 have hT:=hT.o hs8
 exact ⟨_,(Rc 1 rfl (OD hor rfl) (Rt rfl)),_,_,tup1,hT,hk9⟩
theorem r9_insert_c {x:El} {a b:RT El} {r:List (RT El)} {lv:Value} (hs:Sat M w) (hl:Row T5 6 M (a::b::r) lv) (hz:RT.sizes (a::b::r)<1000000000):
  Dz 44 #[.agg (elc x).toArray, .agg #[lv]] w (fun v w'=>∃ v' M',v = .tuple #[.agg #[v'],wv (sinsertC (a::b::r))]∧Step Nope M w M' w'∧Row T5 6 M' (sinsert ltE x (a::b::r)) v'):=by
 have hT:=hs.r
 obtain ⟨la,lc,rfl,_⟩:=hl.slice
 obtain ⟨g,o,fca,rfl,_,hfa,hata⟩:=hl.get t5_ok (i:=0) (t:=a) rfl
 obtain ⟨_,_,fcb,e_,_,hfb,hatb⟩:=hl.get t5_ok (i:=1) (t:=b) rfl
 cases e_
 obtain ⟨_,_,_,_,_,_,rfl⟩:=hfa.shape
 obtain ⟨_,_,_,_,_,_,rfl⟩:=hfb.shape
 have hlc:(a::b::r).length=r.length+2:=rfl
 have hln:=RT.sizes_length (a::b::r)
 have hq1:=RT.sizes_cons a (b::r)
 have hq2:=RT.sizes_cons b r
 refine Fe Tryz.func44 [.cell 4 39, .tmp 5] rfl<|Ri fun Z=>Bm hs rfl fun b1 M1 w1 hs1 hb1 e1=>?_
 have:=hs1.size
 refine Bm hs1.sat rfl fun b2 M2 w2 hs2 hb2 e2=>?_
 have:=hs2.size
 have hT:=hT.t hs1 |>.t hs2
 have:=hT.size
 refine Al (.agg #[(.slice none 0 0)]) hs2.sat rfl fun br w3 hs3 hor er=>?_
 have:=hs3.size
 have:=hor.1.lt
 refine Na rfl Z<|cw_seq fun _ hK2=>Rv fun Z=>?_
 have hs4:=Step.drew hs3.sat
 have:=hs4.size
 refine Gf 0 1 0 rfl<|G1 1 3 rfl (BC hs4 hb2 rfl)<|Gq 2 7 rfl (fun _=>ql rfl)<|Gq 3 15 rfl (fun _=>qGT rfl)<|Gm 4 31 rfl<|Dgq 5 63 rfl V rfl rfl (fun _=>(q_fieldAddr (off:=0) V rfl))<|at_gq (i:=6) (li:=lb 17 127) (cellIs _ _ _) rfl V rfl rfl rfl rfl (fun _ h=>q_load1 V rfl h) (BC hs4 hb2 rfl) V<|Dgq 7 255 rfl V rfl rfl (fun _=>qi 196 6 rfl)<|Dgq 8 511 rfl V rfl rfl (fun _=>(q_fieldAddr (off:=0) V rfl)) ?_
 have hT:=hT.t hs3 |>.t hs4
 refine at_gq (i:=9) (li:=lb 17 1023) (cellIs _ _ _) rfl V rfl rfl rfl rfl (fun _ h=>q_load1 V rfl h) ((hata _ _ hT.le hT.sat).2 0 _ rfl) V<|Dgq 10 2047 rfl V rfl rfl (fun _=>(q_fieldAddr (off:=0) V rfl))<|at_gq (i:=11) (li:=lb 17 4095) (cellIs _ _ _) rfl V rfl rfl rfl rfl (fun _ h=>q_load1 V rfl h) (BC hs4 hb2 rfl) V<|Dgq 12 8191 rfl V rfl rfl (fun _=>qi 196 6 rfl)<|Dgq 13 16383 rfl V rfl rfl (fun _=>(q_fieldAddr (off:=0) V rfl))<|at_gq (i:=14) (li:=lb 17 32767) (cellIs _ _ _) rfl V rfl rfl rfl rfl (fun _ h=>q_load1 V rfl h) ((hatb _ _ hT.le hT.sat).2 0 _ rfl) V<|Dgq 15 65535 rfl V rfl rfl (fun _=>q_eq rfl rfl)<|Gq 16 131071 rfl (fun _=>q_pick_t rfl rfl)<|Dx Z ?_
 have hl:=hl.mono t5_ok hs1.le |>.mono t5_ok hs2.le
 have hfa:=t5_ok.mono _ _ _ _ hs2.le (t5_ok.mono _ _ _ _ hs1.le hfa)
 have hfb:=t5_ok.mono _ _ _ _ hs2.le (t5_ok.mono _ _ _ _ hs1.le hfb)
 have hb1:=hs2.le _ _ hb1
 have hor:=hor.t hs4
 refine cw_cond rfl (fun hc0=>?_) (fun hc0=>?_)
 ·replace hc0:a.rank=b.rank:=by have:=of_decide_eq_true hc0; omega
  have hcut5:=hT.size
  refine cw_rdS (fun l5 w5=>∃ (M5:Mem mb) (bu:Nat) (uba uka:Option Addr) (unb ubc unk ukc:Nat),l5=[(2, .pointer (some ⟨b1,0,none⟩)),(3, .pointer (some ⟨b2,0,none⟩)),(4, .pointer (some ⟨br,0,none⟩)),(6, .pointer (some ⟨bu,0,none⟩)),(7,wv 4)]∧Step Nope M2 w3.drew M5 w5∧Own w5 M5 bu [.int .i64 ((RT.skew ltE x a b).rank:Nat), .int .i64 (RT.skew ltE x a b).root.1, .int .i64 (RT.skew ltE x a b).root.2, .slice uba unb ubc, .slice uka unk ukc, .int .i64 ((RT.skew ltE x a b).size:Nat)] 196∧w3.drew.heap.size≤bu∧T5 M5 (RT.skew ltE x a b) [.int .i64 ((RT.skew ltE x a b).rank:Nat), .int .i64 (RT.skew ltE x a b).root.1, .int .i64 (RT.skew ltE x a b).root.2, .slice uba unb ubc, .slice uka unk ukc, .int .i64 ((RT.skew ltE x a b).size:Nat)]) V V V rfl rfl ?_ ?_
  ·have hR:=Step.refl Nope hs4.sat
   have hs6:=Step.drew hs4.sat
   have:=hs6.size
   refine Gc 0 1 2 rfl (BD hs6 hb1 rfl)<|Gf 1 3 0 rfl<|G1 2 7 rfl (BC hs6 hb2 rfl)<|Gq 3 15 rfl (fun _=>qi 196 6 rfl) ?_
   have hT:=hT.t hs6
   refine Gc 4 31 6 rfl (hata _ _ hT.le hT.sat)<|Gf 5 63 0 rfl<|G1 6 127 rfl (BC hs6 hb2 rfl)<|Gq 7 255 rfl (fun _=>qi 196 6 rfl)<|Gc 8 511 6 rfl (hatb _ _ hT.le hT.sat) ?_
   have hor:=hor.t hs6
   have hR:=hR.t hs6
   refine at_two (i:=9) (j:=13) V ?_ ?_
   ·refine Gi 9 1023 rfl (Ks [T,F,T,F,T]) (h_call V rfl ?_)
    refine (r5_skew hs6.sat hfa hfb O).mono ?_
    rintro _ w7 ⟨cm,Mm,rfl,hs7,hm⟩
    obtain ⟨uba,uka,unb,ubc,unk,ukc,rfl⟩:=hm.shape
    have:=hs7.size
    have hl:=hl.mono t5_ok hs7.le
    have hfa:=t5_ok.mono _ _ _ _ hs7.le hfa
    have hfb:=t5_ok.mono _ _ _ _ hs7.le hfb
    have hb1:=hs7.le _ _ hb1
    have hb2:=hs7.le _ _ hb2
    have hor:=hor.t hs7
    have hT:=hT.t hs7
    have hR:=hR.t hs7
    refine ⟨(by repeat' first | exact trivial | exact BC hs7 hb2 rfl | refine And.intro ?_ ?_),?_⟩
    refine Gm 10 2047 rfl<|Gq 11 4095 rfl (fun _=>q_extract rfl rfl)<|Gq 12 8191 rfl (fun _=>q_extract rfl rfl) ?_
    have hqau:=hT.size
    refine Gh 13 16383 rfl (Ks [F,F]) (h_allocO (z:=(.agg #[(.int .i64 0),(.int .i64 0),(.int .i64 0),(.slice none 0 0),(.slice none 0 0),(.int .i64 0)])) hs7.sat V rfl fun bu w8 hs8 hou eu=>?_)
    have:=hs8.size
    have hlu:=hou.1.lt
    have hor:=hor.t hs8
    have hT:=hT.t hs8
    have hR:=hR.t hs8
    refine ⟨(by repeat' first | exact trivial | exact BC hs8 hb2 rfl | refine And.intro ?_ ?_),?_⟩
    refine G0 14 32767 rfl (Ks [T,T]) (h_store hs8.sat hou rfl rfl rfl V rfl rfl rfl fun w9 hs9 hn9=>?_)
    clear hou; have hou:=hn9; clear hn9
    have:=hs9.size
    refine ⟨trivial,?_⟩
    refine Ga 15 65535 rfl<|Dd V ?_
    have hR:=hR.o hs9
    exact ⟨_,(.cons rfl (.cons rfl (.cons rfl (.cons rfl (.cons rfl (.nil _)))))),_,_,_,_,_,_,_,_,rfl,hR,hou,by omega,hm⟩
   ·have hqau:=hT.size
    refine Gi 13 8703 rfl (Ks [F,F,F,F,F]) (h_allocO (z:=(.agg #[(.int .i64 0),(.int .i64 0),(.int .i64 0),(.slice none 0 0),(.slice none 0 0),(.int .i64 0)])) hs6.sat V rfl fun bu w10 hs10 hou eu=>?_)
    have:=hs10.size
    have hlu:=hou.1.lt
    have hor:=hor.t hs10
    have hT:=hT.t hs10
    have hR:=hR.t hs10
    refine ⟨(by repeat' first | exact trivial | exact BD hs10 hb1 rfl | exact BC hs10 hb2 rfl | exact (hata _ _ hT.le hT.sat) | exact (hatb _ _ hT.le hT.sat) | refine And.intro ?_ ?_),?_⟩
    refine Gh 9 9215 rfl (Ks [T,F,T,F,T]) (h_call V rfl ?_)
    refine (r5_skew hs10.sat hfa hfb O).mono ?_
    rintro _ w11 ⟨cm,Mm,rfl,hs11,hm⟩
    obtain ⟨uba,uka,unb,ubc,unk,ukc,rfl⟩:=hm.shape
    have:=hs11.size
    have hl:=hl.mono t5_ok hs11.le
    have hfa:=t5_ok.mono _ _ _ _ hs11.le hfa
    have hfb:=t5_ok.mono _ _ _ _ hs11.le hfb
    have hb1:=hs11.le _ _ hb1
    have hb2:=hs11.le _ _ hb2
    have hor:=hor.t hs11
    have hou:=hou.t hs11
    have hT:=hT.t hs11
    have hR:=hR.t hs11
    refine ⟨(by repeat' first | exact trivial | exact BC hs11 hb2 rfl | refine And.intro ?_ ?_),?_⟩
    refine Gm 10 10239 rfl<|Gq 11 12287 rfl (fun _=>q_extract rfl rfl)<|Gq 12 16383 rfl (fun _=>q_extract rfl rfl)<|G0 14 32767 rfl (Ks [T,T]) (h_store hs11.sat hou rfl rfl rfl V rfl rfl rfl fun w12 hs12 hn12=>?_)
    clear hou; have hou:=hn12; clear hn12
    have:=hs12.size
    refine ⟨trivial,?_⟩
    refine Ga 15 65535 rfl<|Dd V ?_
    have hR:=hR.o hs12
    exact ⟨_,(.cons rfl (.cons rfl (.cons rfl (.cons rfl (.cons rfl (.nil _)))))),_,_,_,_,_,_,_,_,rfl,hR,hou,by omega,hm⟩
  rintro l5 w5 ⟨M5,bu,uba,uka,unb,ubc,unk,ukc,rfl,hs5,hou,hw5,hm⟩
  have:=hs5.size
  have hlu:=hou.1.lt
  refine Ri fun Z=>Qc 6 rfl (OD hou rfl)<|as_h rfl (h_buildO (e:=196) (size:=6) (zs:=[(.int .i64 0),(.int .i64 0),(.int .i64 0),(.slice none 0 0),(.slice none 0 0),(.int .i64 0)]) (cs:=[_,_,_,_,_,_]) V V V rfl hs5.sat rfl rfl fun bB w13 hs13 hoB eB=>?_)
  have:=hs13.size
  have:=hoB.1.lt
  refine Nar rfl Z fun Z=>Qm rfl<|Qf 0 rfl ?_
  have hb2:=hs5.le _ _ hb2
  refine Q1 rfl (BC hs13 hb2 rfl)<|Qq rfl (q_slice (e:=196) (size:=6) (k':= .i64) V V rfl rfl rfl O O O) ?_
  have hl:=hl.mono t5_ok hs5.le
  have hT:=hT.t hs5 |>.t hs13
  refine as_h rfl (h_cons t5_ok (e:=196) (bytes:=80) V hT hoB hm ((hl.sub 2 ((a::b::r).length:Nat) O O O).cast (show _=r by rw [Int.toNat_natCast]; exact List.take_of_length_le (by simp))) rfl rfl (by have:=hln; omega) rfl O fun vk8 Mk8 w14 hT hle14 hown14 hz14 hk8=>?_)
  have hfa:=t5_ok.mono _ _ _ _ hs5.le hfa
  have hfa:=t5_ok.mono _ _ _ _ hle14 hfa
  have hfb:=t5_ok.mono _ _ _ _ hs5.le hfb
  have hfb:=t5_ok.mono _ _ _ _ hle14 hfb
  have hb1:=hs5.le _ _ hb1
  have hb1:=hle14 _ _ hb1
  have hb2:=hle14 _ _ hb2
  have hor:=hor.t hs5 |>.t hs13
  have hor:=hown14 _ _ _ O hor
  have hou:=hou.t hs13
  have hou:=hown14 _ _ _ O hou
  have hm:=t5_ok.mono _ _ _ _ hle14 hm
  obtain ⟨ak8,ck8,rfl,_⟩:=hk8.slice
  refine Nar rfl Z fun Z=>Qm rfl<|Qq rfl (q_build (zs:=[(.slice none 0 0)]) (places:=[(0,1)]) (cs:=[_]) V V rfl rfl)<|Qm rfl<|St hT.sat hor rfl fun w15 hs15 hor=>?_
  have:=hs15.size
  refine Na rfl Z<|cw_ret ?_
  rw [sinsert,sinsertC,if_pos hc0,if_pos hc0]
  have hT:=hT.o hs15
  exact ⟨_,(Rc 1 rfl (OD hor rfl) (Rt rfl)),_,_,tup4,hT,hk8⟩
 ·replace hc0:¬ a.rank=b.rank:=by have:=of_decide_eq_false hc0; omega
  refine cw_skip<|hK2 _ _<|Ri fun Z=>Qc 2 rfl (BD hs4 hb1 rfl)<|Ca rfl ((r5_leaf (x:=x) hs4.sat).mono ?_)
  rintro _ w16 ⟨cl,rfl,hs16,hlf⟩
  obtain ⟨fba,fka,fnb,fbc,fnk,fkc,rfl⟩:=hlf.shape
  have:=hs16.size
  refine as_h rfl (h_buildO (e:=196) (size:=6) (zs:=[(.int .i64 0),(.int .i64 0),(.int .i64 0),(.slice none 0 0),(.slice none 0 0),(.int .i64 0)]) (cs:=[_,_,_,_,_,_]) V V V rfl hs16.sat rfl rfl fun bK w17 hs17 hoK eK=>?_)
  have:=hs17.size
  have:=hoK.1.lt
  refine Nar rfl Z fun Z=>Qm rfl<|Qf 0 rfl<|Q1 rfl (BC hs17 hb2 rfl) ?_
  have hT:=hT.t hs16 |>.t hs17
  refine as_h rfl (h_cons t5_ok (e:=196) (bytes:=80) V hT hoK hlf hl rfl rfl (by have:=hln; omega) rfl O fun vk9 Mk9 w18 hT hle18 hown18 hz18 hk9=>?_)
  have hfa:=t5_ok.mono _ _ _ _ hle18 hfa
  have hfb:=t5_ok.mono _ _ _ _ hle18 hfb
  have hb1:=hle18 _ _ hb1
  have hb2:=hle18 _ _ hb2
  have hor:=hor.t hs16 |>.t hs17
  have hor:=hown18 _ _ _ O hor
  have hlf:=t5_ok.mono _ _ _ _ hle18 hlf
  obtain ⟨ak9,ck9,rfl,_⟩:=hk9.slice
  refine Nar rfl Z fun Z=>Qm rfl<|Qq rfl (q_build (zs:=[(.slice none 0 0)]) (places:=[(0,1)]) (cs:=[_]) V V rfl rfl)<|St hT.sat hor rfl fun w19 hs19 hor=>?_
  have:=hs19.size
  refine Na rfl Z<|cw_ret ?_
  rw [sinsert,sinsertC,if_neg hc0,if_neg hc0]
  have hT:=hT.o hs19
  exact ⟨_,(Rc 1 rfl (OD hor rfl) (Rt rfl)),_,_,tup1,hT,hk9⟩
theorem r9_insert {x:El} {ts:List (RT El)} {lv:Value} (hs:Sat M w) (hl:Row T5 6 M ts lv) (hz:RT.sizes ts<1000000000):
  Dz 44 #[.agg (elc x).toArray, .agg #[lv]] w (fun v w'=>∃ v' M',v = .tuple #[.agg #[v'],wv (sinsertC ts)]∧Step Nope M w M' w'∧Row T5 6 M' (sinsert ltE x ts) v'):=by
 match ts with
 | []=>exact r9_insert_n hs hl (Nat.zero_le _)
 | [_]=>exact r9_insert_n hs hl (Nat.le_refl _)
 | _::_::_=>exact r9_insert_c hs hl hz
theorem r9_level_n {lv:Value} (hs:Sat M w) (hl:Row T5 6 M [] lv):
  Dz 87 #[lv] w (fun v w'=>∃ v' M',v = .tuple #[v',wv (0)]∧Step Nope M w M' w'∧Row T5 6 M' [] v'):=by
 have hT:=hs.r
 obtain ⟨la,lc,rfl,_⟩:=hl.slice
 refine Fe Tryz.func87 [.tmp 2, .tmp 3] rfl<|Ri fun Z=>Qa rfl<|Na rfl Z<|cw_seq fun _ hK2=>Ri fun Z=>Qm rfl<|Qq rfl (ql rfl)<|Qq rfl (q_eqT rfl rfl (by simp))<|Nx Z<|cw_true rfl<|Ri fun Z=>Qm rfl<|Qa rfl<|Na rfl Z<|cw_ret ?_
 exact ⟨_,(res_tmp rfl (Rt rfl)),_,_,tup0,hT,hl⟩
theorem r9_level_c {f:RT El} {r:List (RT El)} {lv:Value} (hs:Sat M w) (hl:Row T5 6 M (f::r) lv) (hz:RT.sizes (f::r)≤1000000000):
  Dz 87 #[lv] w (fun v w'=>∃ v' M',v = .tuple #[v',wv (bputC ltE f r)]∧Step Nope M w M' w'∧Row T5 6 M' (bput ltE f r) v'):=by
 have hT:=hs.r
 obtain ⟨la,lc,rfl,_⟩:=hl.slice
 have hlc:(f::r).length=r.length+1:=rfl
 obtain ⟨g,o,fc,rfl,_,hf,hat⟩:=hl.get t5_ok (i:=0) (t:=f) rfl
 obtain ⟨fba,fka,fnb,fbc,fnk,fkc,rfl⟩:=hf.shape
 refine Fe Tryz.func87 [.tmp 2, .tmp 3] rfl<|Ri fun Z=>Qa rfl<|Na rfl Z<|cw_seq fun _ hK2=>Ri fun Z=>Qm rfl<|Qq rfl (ql rfl)<|Qq rfl (q_eqF rfl rfl (by simp only [List.length_cons]; omega))<|Nx Z<|cw_false rfl<|cw_skip<|hK2 _ _<|Rv fun Z=>?_
 have hs1:=Step.drew hs
 have:=hs1.size
 refine Gm 0 1 rfl<|Gq 1 3 rfl (fun _=>qi 196 6 rfl) ?_
 have hT:=hT.t hs1
 refine Gc 2 7 6 rfl (hat _ _ hT.le hT.sat)<|Gm 3 15 rfl<|Gq 4 31 rfl (fun _=>(q_slice (e:=196) (size:=6) (k':= .i64) V V rfl rfl rfl O O O))<|Gh 5 63 rfl (Ks [T]) (h_call V rfl ?_)
 refine (r7_put hs1.sat hf (hl.tail rfl) (by simp only [RT.sizes] at hz; omega)).mono ?_
 rintro _ w2 ⟨pv,Mp,rfl,hs2,hp⟩
 have:=hs2.size
 refine ⟨trivial,?_⟩
 refine Gq 6 127 rfl (fun _=>q_extract rfl rfl)<|Gq 7 255 rfl (fun _=>q_extract rfl rfl)<|Ga 8 511 rfl<|Ga 9 1023 rfl<|Dx Z<|cw_ret ?_
 have hT:=hT.t hs2
 exact ⟨_,(res_tmp rfl (Rt rfl)),_,_,tup_eq rfl,hT,hp⟩
theorem r9_level {ts:List (RT El)} {lv:Value} (hs:Sat M w) (hl:Row T5 6 M ts lv) (hz:RT.sizes ts≤1000000000):
  Dz 87 #[lv] w (fun v w'=>∃ v' M',v = .tuple #[v',wv (slevelC ltE ts)]∧Step Nope M w M' w'∧Row T5 6 M' (slevel ltE ts) v'):=by
 cases ts with
 | nil=>exact r9_level_n hs hl
 | cons f r=>exact r9_level_c hs hl hz
theorem r9_meld {a b:List (RT El)} {va vb:Value} (hs:Sat M w) (ha:Row T5 6 M a va) (hb:Row T5 6 M b vb) (hz:RT.sizes a+RT.sizes b≤1000000000):
  Dz 50 #[.agg #[va], .agg #[vb]] w (fun v w'=>∃ v' M',v = .tuple #[.agg #[v'],wv (smeldC ltE a b)]∧Step Nope M w M' w'∧Row T5 6 M' (smeld ltE a b) v'):=by
 have hT:=hs.r
 obtain ⟨laa,lac,rfl,_⟩:=ha.slice
 obtain ⟨lba,lbc,rfl,_⟩:=hb.slice
 refine Fe Tryz.func50 [.cell 4 39, .tmp 5] rfl<|Ri fun Z=>Bm hs rfl fun b1 M1 w1 hs1 hb1 e1=>?_
 have:=hs1.size
 refine Bm hs1.sat rfl fun b2 M2 w2 hs2 hb2 e2=>?_
 have:=hs2.size
 have hT:=hT.t hs1 |>.t hs2
 have:=hT.size
 refine Al (.agg #[(.slice none 0 0)]) hs2.sat rfl fun br w3 hs3 hor er=>?_
 have:=hs3.size
 have:=hor.1.lt
 refine Nar rfl Z fun Z=>Qf 0 rfl ?_
 have hb1:=hs2.le _ _ hb1
 refine Q1 rfl (BC hs3 hb1 rfl) ?_
 have ha:=ha.mono t5_ok hs1.le |>.mono t5_ok hs2.le
 refine Ca rfl ((r9_level hs3.sat ha O).mono ?_)
 rintro _ w4 ⟨va,Mla,rfl,hs4,hla⟩
 obtain ⟨da,dca,rfl,_⟩:=hla.slice
 have:=hs4.size
 refine Qm rfl<|Qe rfl<|Qe rfl<|Qa rfl<|Nar rfl Z fun Z=>Qf 0 rfl ?_
 have hb2:=hs4.le _ _ hb2
 refine Q1 rfl (BC hs4 hb2 rfl) ?_
 have hb:=hb.mono t5_ok hs1.le |>.mono t5_ok hs2.le |>.mono t5_ok hs4.le
 refine Ca rfl ((r9_level hs4.sat hb O).mono ?_)
 rintro _ w5 ⟨vb,Mlb,rfl,hs5,hlb⟩
 obtain ⟨db,dcb,rfl,_⟩:=hlb.slice
 have:=hs5.size
 refine Qm rfl<|Qe rfl<|Qe rfl<|Qa rfl<|Nar rfl Z fun Z=>Qm rfl<|Qm rfl ?_
 have hla:=hla.mono t5_ok hs5.le
 refine Ca rfl ((r7_trees hs5.sat hla hlb (by rw [slevel_size,slevel_size]; exact hz)).mono ?_)
 rintro _ w6 ⟨mv,Mm,rfl,hs6,hm⟩
 obtain ⟨ma,mc,rfl,_⟩:=hm.slice
 have:=hs6.size
 refine Qm rfl<|Qe rfl<|Qe rfl<|Qa rfl<|Nar rfl Z fun Z=>Qm rfl<|Qq rfl (q_build (zs:=[(.slice none 0 0)]) (places:=[(0,1)]) (cs:=[_]) V V rfl rfl)<|Qm rfl<|Qm rfl<|Qq rfl (q_addw rfl rfl)<|Qm rfl<|Qq rfl (q_addw rfl rfl) ?_
 have hor:=hor.t hs4 |>.t hs5 |>.t hs6
 refine St hs6.sat hor rfl fun w7 hs7 hor=>?_
 have:=hs7.size
 refine Na rfl Z<|cw_ret ?_
 have hT:=hT.t hs3 |>.t hs4 |>.t hs5 |>.t hs6 |>.o hs7
 exact ⟨_,(Rc 1 rfl (OD hor rfl) (Rt rfl)),_,_,tup_eq rfl,hT,hm⟩
theorem r9_min {ts:List (RT El)} {x:El} {bs:List El} {ks:List (RT El)} {lv:Value} (hs:Sat M w) (hl:Row T5 6 M ts lv) (ht:ts[leastN ltE (ts.map RT.root) (ts.length-1)]? = some (.node x bs ks)) (hz:ts.length≤1000000000):
  Dz 74 #[.agg #[lv]] w (fun v w'=>v = .tuple #[.agg (elc x).toArray,wv (ts.length-1)]∧Step Nope M w M w'):=by
 have hT:=hs.r
 obtain ⟨la,lc,rfl,_⟩:=hl.slice
 refine Fe Tryz.func74 [.cell 2 29, .tmp 3] rfl<|Ri fun Z=>Bm hs rfl fun b1 M1 w1 hs1 hb1 e1=>?_
 have:=hs1.size
 have hT:=hT.t hs1
 have:=hT.size
 refine Al (.agg #[(.int .i64 0),(.int .i64 0)]) hs1.sat rfl fun br w2 hs2 hor er=>?_
 have:=hs2.size
 have:=hor.1.lt
 refine Nar rfl Z fun Z=>Qf 0 rfl<|Q1 rfl (BC hs2 hb1 rfl)<|Qq rfl (q_build (zs:=[(.slice none 0 0)]) (places:=[(0,1)]) (cs:=[_]) V V rfl rfl) ?_
 have hl:=hl.mono t5_ok hs1.le
 refine Ca rfl ((r7_min hs2.sat hl ht O).mono ?_)
 rintro _ w3 ⟨rfl,hs3⟩
 have:=hs3.size
 refine Qe rfl<|Qe rfl ?_
 have hor:=hor.t hs3
 refine St hs3.sat hor rfl fun w4 hs4 hor=>?_
 have:=hs4.size
 refine Na rfl Z<|cw_ret ?_
 have hT:=hT.t hs2 |>.t hs3 |>.o hs4
 exact ⟨_,(Rc 2 rfl (OD hor rfl) (Rt rfl)),rfl,hT.forget⟩
theorem r9_size {ts:List (RT El)} {lv:Value} (hs:Sat M w) (hl:Row T5 6 M ts lv) (hz:RT.sizes ts≤1000000000):
  Dz 68 #[.agg #[lv]] w (fun v w'=>v = .int .i64 (RT.sizes ts:Nat)∧Step Nope M w M w'):=by
 have hT:=hs.r
 obtain ⟨la,lc,rfl,_⟩:=hl.slice
 refine Fe Tryz.func68 [.tmp 2] rfl<|Ri fun Z=>Bm hs rfl fun b1 M1 w1 hs1 hb1 e1=>?_
 have:=hs1.size
 refine Nar rfl Z fun Z=>Qf 0 rfl<|Q1 rfl (BC hs1 hb1 rfl)<|Qq rfl (q_build (zs:=[(.slice none 0 0)]) (places:=[(0,1)]) (cs:=[_]) V V rfl rfl) ?_
 have hl:=hl.mono t5_ok hs1.le
 refine Ca rfl ((r7_size hs1.sat hl hz).mono ?_)
 rintro _ w2 ⟨rfl,hs2⟩
 have:=hs2.size
 refine Na rfl Z<|cw_ret ?_
 have hT:=hT.t hs1 |>.t hs2
 exact ⟨_,Rt rfl,rfl,hT.forget⟩
end Go.Proofs.YtnnldppehojffaaGreat
/- The reference of skew binomial heaps, part 2. -/
namespace Go.Proofs.YtnnldppehojffaaGreat
open Go Go.Eng
variable {mb:Option Nat} {w:World} {M:Mem mb}
theorem r9_pop {ts:List (RT El)} {x:El} {bs:List El} {ks:List (RT El)} {lv:Value} (hs:Sat M w) (hl:Row T5 6 M ts lv) (ht:ts[leastN ltE (ts.map RT.root) (ts.length-1)]? = some (.node x bs ks)) (hz:RT.sizes ts≤1000000000):
  Dz 58 #[.agg #[lv]] w (fun v w'=>∃ v' M',v = .tuple #[.agg #[v'],wv (spopC ltE ts (.node x bs ks))]∧Step Nope M w M' w'∧Row T5 6 M' (spop ltE ts (.node x bs ks)) v'):=by
 have hT:=hs.r
 obtain ⟨la,lc,rfl,hlc⟩:=hl.slice
 obtain ⟨g,o,tc,e_,_,hk0,hat⟩:=hl.get t5_ok ht
 subst e_
 obtain ⟨ba,ka,bc,kc,rfl,hB,hQ⟩:=t5_iff.1 hk0
 have hpos:0<ts.length:=Nat.lt_of_le_of_lt (Nat.zero_le _) (List.getElem?_eq_some_iff.1 ht).1
 have hbl:=leastN_le ltE (ts.map RT.root) (ts.length-1)
 have hszo:=sizes_out ht
 simp only [RT.size] at hszo
 have hksl:=RT.sizes_length ks
 have htsl:=RT.sizes_length ts
 have hl0:=hl
 have hB0:=hB
 have hQ0:=hQ
 refine Fe Tryz.func58 [.cell 2 39, .tmp 3] rfl<|Ri fun Z=>Bm hs rfl fun b1 M1 w1 hs1 hb1 e1=>?_
 have:=hs1.size
 have hT:=hT.t hs1
 have:=hT.size
 refine Al (.agg #[(.slice none 0 0)]) hs1.sat rfl fun br w2 hs2 hor er=>?_
 have:=hs2.size
 have:=hor.1.lt
 refine Na rfl Z<|cw_seq fun _ hK2=>Ri fun Z=>Qf 0 rfl<|Q1 rfl (BC hs2 hb1 rfl)<|Qq rfl (ql rfl)<|Qq rfl (qEF rfl)<|Nx Z<|cw_false rfl<|cw_skip<|hK2 _ _<|Ri fun Z=>Qf 0 rfl<|Q1 rfl (BC hs2 hb1 rfl) ?_
 have hl:=hl.mono t5_ok hs1.le
 refine Ca rfl ((r7_least hs2.sat hl O).mono ?_)
 rintro _ w3 ⟨rfl,hs3⟩
 have:=hs3.size
 refine Nar rfl Z fun Z=>Na rfl Z<|cw_seq fun _ hK6=>Ri fun Z=>Qf 0 rfl<|Q1 rfl (BC hs3 hb1 rfl)<|Qm rfl<|Qq rfl (qi 196 6 rfl)<|Qf 4 rfl ?_
 have hT:=hT.t hs2 |>.t hs3
 refine Q1 rfl ((hat _ _ hT.le hT.sat).2 4 _ rfl)<|Qq rfl (ql rfl)<|Qq rfl (qS rfl)<|Na rfl Z<|cw_block ?_
 have hB:=hB.mono encE_ok hs1.le
 have hQ:=hQ.mono t5_ok hs1.le
 have hor:=hor.t hs3
 refine cw_loop (fun mm l1 wL=>∃ (j:Nat) (z:Int) (vk:Value) (ML:Mem mb),j=mm∧z=(j:Int)-1∧j≤ks.length∧l1=[(1, .pointer (some ⟨b1,0,none⟩)),(2, .pointer (some ⟨br,0,none⟩)),(4, .int .i64 (leastN ltE (ts.map RT.root) (ts.length-1):Nat)),(5,vk),(6, .int .i64 z)]∧Step Nope M w ML wL∧w3.heap.size≤wL.heap.size∧RowB 196 T5 6 w3.heap.size wL ML ((ks.drop j).reverse) vk∧ML b1=some ([.slice (some ⟨g,o,none⟩) ts.length lc],39)∧Own wL ML br [.slice none 0 0] 39) (ks.length) [(1, .pointer (some ⟨b1,0,none⟩)),(2, .pointer (some ⟨br,0,none⟩)),(4, .int .i64 (leastN ltE (ts.map RT.root) (ts.length-1):Nat)),(5, .slice none 0 0),(6, .int .i64 ((ks.length:Int)-1))] (.cons rfl (.cons rfl (.cons rfl (.cons rfl (.cons rfl (.nil _)))))) ?_ ?_
 ·exact ⟨ks.length,_,_,_,rfl,rfl,Nat.le_refl _,rfl,hT,Nat.le_refl _,by rw [List.drop_length]; exact RowB.none,hb1,hor⟩
 have hBw:w.heap.size≤w3.heap.size∧br<w3.heap.size∧w.heap.size≤br:=⟨hT.size,hor.1.lt,by omega⟩
 clear hT hb1 hor hl hB hQ
 have hl:=hl0
 have hB:=hB0
 have hQ:=hQ0
 rintro mm l1 wL ⟨j,z,vk,ML,rfl,hjz,hj,rfl,hT,hwL,hkd,hb1,hor⟩
 obtain ⟨ak,ck,rfl⟩:=hkd.slice
 refine cw_seq fun _ hK8=>Ri fun Z=>Qm rfl<|Qq rfl (q_ge rfl rfl)<|Nx Z ?_
 have hl:=hl.mono t5_ok hT.le
 have hB:=hB.mono encE_ok hT.le
 have hQ:=hQ.mono t5_ok hT.le
 refine cw_cond rfl (fun hc1=>?_) (fun hc1=>?_)
 ·have hc1:=of_decide_eq_true hc1
  obtain ⟨j,rfl⟩:∃ j',j=j'+1:=⟨j-1,by omega⟩
  obtain ⟨k,hkk0⟩:∃ k,ks[j]? = some k:=⟨ks[j]'O,by simp⟩
  obtain ⟨gk,ok,kc,e_,_,hkk,hatk⟩:=hQ0.get t5_ok hkk0
  subst e_
  have hkk:=t5_ok.mono _ _ _ _ hT.le hkk
  obtain ⟨_,_,_,_,_,_,rfl⟩:=hkk.shape
  have hlk:((ks.drop (j+1)).reverse).length+[k].length=ks.length-j:=by rw [List.length_reverse,List.length_drop]; simp; omega
  refine cw_skip<|hK8 _ _<|cw_seq fun _ hK10=>cw_block<|cw_region fun _ Z=>Qm rfl<|Qf 0 rfl<|Q1 rfl (BC hT hb1 rfl)<|Qm rfl<|Qq rfl (qi 196 6 rfl)<|Qf 4 rfl<|Q1 rfl ((hat _ _ hT.le hT.sat).2 4 _ rfl)<|Qm rfl<|Qq rfl (qi 196 6 rfl)<|Qc 6 rfl (show cellsAre gk (ok+z.toNat*6) 6 _ _ by rw [show z.toNat=j by omega]; exact hatk _ _ hT.le hT.sat)<|as_h rfl (h_buildM (e:=196) (size:=6) (zs:=[(.int .i64 0),(.int .i64 0),(.int .i64 0),(.slice none 0 0),(.slice none 0 0),(.int .i64 0)]) (cs:=[_,_,_,_,_,_]) V V V rfl hT.sat rfl rfl rfl fun bK MK w4 hs4 hrK eK=>?_)
  have:=hs4.size
  have hkd:=hkd.then t5_ok hs4
  have hkk:=t5_ok.mono _ _ _ _ hs4.le hkk
  refine as_h rfl (h_appB t5_ok (e:=196) (bytes:=80) V hs4.sat hkd (Row.one t5_ok hrK hkk) rfl rfl (by have:=hlk; omega) rfl O fun vkd2 w5 hs5 hkd2 hor5 hfl5=>?_)
  have hT:=hT.t hs4
  have hT:=hT.trans hs5 (fun k hk h=>by have:=hfl5 _ h; omega)
  obtain ⟨akd2,ckd2,rfl⟩:=hkd2.slice
  have:=hs5.size
  refine Qa rfl<|as_nil (Z _ _ ?_)
  refine hK10 _ _<|cw_region fun _ Z=>Qm rfl<|Qq rfl (qS rfl)<|Qa rfl<|as_nil (Z _ _ ?_)
  have hl:=hl.mono t5_ok hs4.le
  have hB:=hB.mono encE_ok hs4.le
  have hQ:=hQ.mono t5_ok hs4.le
  have hb1:=hs4.le _ _ hb1
  have hor:=hor.t hs4 |>.step hs5 (fun h=>by have:=hfl5 _ h; omega)
  refine ⟨_,_,?_,(.cons rfl (.cons rfl (.cons rfl (.cons rfl (.cons rfl (.nil _)))))),j,_,_,_,rfl,?_,by omega,rfl,hT,by omega,hkd2.cast ?_,hb1,hor⟩
  ·omega
  ·omega
  ·rw [← List.reverse_cons,List.drop_eq_getElem_cons (i:=j) O,show ks[j]=k from by rw [List.getElem?_eq_getElem O] at hkk0; exact Option.some.inj hkk0]
 ·have hc1:=of_decide_eq_false hc1
  obtain rfl:j=0:=by omega
  rw [List.drop_zero] at hkd
  refine cw_exit<|hK6 _ _<|Ri fun Z=>?_
  obtain ⟨Mz,hT,hleMz,hkz,hsmMz⟩:=hkd.freeze t5_ok hT O
  have hb1:=hleMz _ _ hb1
  have hor:=hor.of_same (hsmMz _ (hkd.off O))
  have hr0:RowB 196 T5 6 w3.heap.size wL Mz ([]:List (RT El)) (.slice none 0 0):=RowB.none
  refine Nar rfl Z fun Z=>Qm rfl<|Qf 0 rfl<|Q1 rfl (BC hT hb1 rfl)<|Qm rfl<|Qq rfl (q_slice (e:=196) (size:=6) (k:= .i64) V V rfl rfl rfl O O O) ?_
  have hl:=hl.mono t5_ok hleMz
  refine as_h rfl (h_appB t5_ok (e:=196) (bytes:=80) V hT.sat hr0 ((hl.sub 0 (leastN ltE (ts.map RT.root) (ts.length-1):Nat) O O O).cast (show _=ts.take (leastN ltE (ts.map RT.root) (ts.length-1)) by simp)) rfl rfl (by simp only [List.length_nil,List.length_take]; omega) rfl O fun vr1 w6 hs6 hr1 hor6 hfl6=>?_)
  have hT:=hT.trans hs6 (fun k hk h=>by have:=hfl6 _ h; omega)
  obtain ⟨ar1,cr1,rfl⟩:=hr1.slice
  have:=hs6.size
  refine Nar rfl Z fun Z=>Qm rfl<|Qf 0 rfl<|Q1 rfl (BC hs6 hb1 rfl)<|Qm rfl<|Qq rfl (qA rfl)<|Qq rfl (q_slice (e:=196) (size:=6) (k':= .i64) V V rfl rfl rfl O O O)<|as_h rfl (h_appB t5_ok (e:=196) (bytes:=80) V hs6.sat hr1 ((hl.sub ((leastN ltE (ts.map RT.root) (ts.length-1):Nat)+1) (ts.length:Nat) O O O).cast (show _=ts.drop (leastN ltE (ts.map RT.root) (ts.length-1)+1) by rw [show (((leastN ltE (ts.map RT.root) (ts.length-1):Nat):Int)+1).toNat=leastN ltE (ts.map RT.root) (ts.length-1)+1 by omega,Int.toNat_natCast]; exact List.take_of_length_le (by simp))) rfl rfl (by simp only [List.length_append,List.length_nil,List.length_take,List.length_drop]; omega) rfl O fun vr2 w7 hs7 hr2 hor7 hfl7=>?_)
  have hT:=hT.trans hs7 (fun k hk h=>by have:=hfl7 _ h; omega)
  obtain ⟨ar2,cr2,rfl⟩:=hr2.slice
  have:=hs7.size
  refine Nar rfl Z fun Z=>?_
  have hr2:=hr2.cast (show _=ts.eraseIdx (leastN ltE (ts.map RT.root) (ts.length-1)) by rw [List.nil_append,List.eraseIdx_eq_take_drop_succ])
  obtain ⟨My,hT,hleMy,hrz,hsmMy⟩:=hr2.freeze t5_ok hT O
  have hb1:=hleMy _ _ hb1
  have hor:=hor.step hs6 (fun h=>by have:=hfl6 _ h; omega) |>.step hs7 (fun h=>by have:=hfl7 _ h; omega)
  have hor:=hor.of_same (hsmMy _ (hr2.off O))
  refine Qm rfl<|Ca rfl ((r9_level hT.sat hrz O).mono ?_)
  rintro _ w8 ⟨vl,Mv,rfl,hs8,hlv⟩
  obtain ⟨dl,dlc,rfl,_⟩:=hlv.slice
  have:=hs8.size
  refine Qm rfl<|Qe rfl<|Qe rfl<|Qa rfl<|Nar rfl Z fun Z=>Qm rfl<|Qm rfl ?_
  have hkz:=hkz.mono t5_ok hleMy |>.mono t5_ok hs8.le
  refine Ca rfl ((r7_trees (a:=ks.reverse) (b:=(slevel ltE (ts.eraseIdx (leastN ltE (ts.map RT.root) (ts.length-1))))) hs8.sat hkz hlv (by rw [sizes_rev,slevel_size]; omega)).mono ?_)
  rintro _ w9 ⟨mv,Mm,rfl,hs9,hm⟩
  obtain ⟨ma,mc,rfl,_⟩:=hm.slice
  have:=hs9.size
  refine Qm rfl<|Qe rfl<|Qe rfl<|Qa rfl<|Nar rfl Z fun Z=>Qm rfl<|Qq rfl (q_build (zs:=[(.slice none 0 0)]) (places:=[(0,1)]) (cs:=[_]) V V rfl rfl) ?_
  have hT:=hT.t hs8 |>.t hs9
  have:=hT.size
  refine Al (.agg #[(.slice none 0 0)]) hs9.sat rfl fun bo w10 hs10 hoo eo=>?_
  have:=hs10.size
  have:=hoo.1.lt
  refine St hs10.sat hoo rfl fun w11 hs11 hoo=>?_
  have:=hs11.size
  refine Nr Z fun Z=>Qf 0 rfl ?_
  have hb1:=hs9.le _ _ (hs8.le _ _ hb1)
  refine Q1 rfl (BC hs11 hb1 rfl)<|Qq rfl (ql rfl)<|Qq rfl (qS rfl)<|Qm rfl<|Qq rfl (q_addiw (a:=ts.length-1) rfl rfl O)<|Qm rfl<|Qq rfl (q_addw rfl rfl)<|Na rfl Z<|cw_seq fun _ hK20=>Ri fun Z=>Na rfl Z<|cw_block ?_
  have hB:=hB.mono encE_ok hleMz |>.mono encE_ok hleMy |>.mono encE_ok hs8.le |>.mono encE_ok hs9.le
  have hQ:=hQ.mono t5_ok hleMz |>.mono t5_ok hleMy |>.mono t5_ok hs8.le |>.mono t5_ok hs9.le
  have hl:=hl.mono t5_ok hleMy |>.mono t5_ok hs8.le |>.mono t5_ok hs9.le
  have hor:=hor.t hs8 |>.t hs9 |>.t hs10 |>.u hs11
  have hrz:=hrz.mono t5_ok hs8.le |>.mono t5_ok hs9.le
  have hlv:=hlv.mono t5_ok hs9.le
  have hT:=hT.t hs10 |>.o hs11
  refine cw_loop (fun mm l1 wL=>∃ (i c:Nat) (va:Option Addr) (vc:Nat) (ML:Mem mb),mm=bs.length-i∧i≤bs.length∧c=(ts.length-1+slevelC ltE (ts.eraseIdx (leastN ltE (ts.map RT.root) (ts.length-1)))+bmeldC ltE ks.reverse (slevel ltE (ts.eraseIdx (leastN ltE (ts.map RT.root) (ts.length-1)))))+sinsertsC ltE (bs.take i) (bmeld ltE ks.reverse (slevel ltE (ts.eraseIdx (leastN ltE (ts.map RT.root) (ts.length-1)))))∧l1=[(1, .pointer (some ⟨b1,0,none⟩)),(2, .pointer (some ⟨br,0,none⟩)),(4, .int .i64 (leastN ltE (ts.map RT.root) (ts.length-1):Nat)),(12, .pointer (some ⟨bo,0,none⟩)),(13,wv c),(14, .int .i64 (i:Nat))]∧Step Nope M w ML wL∧Own wL ML bo [.slice va (((bs.take i).foldl (fun h x=>sinsert ltE x h) (bmeld ltE ks.reverse (slevel ltE (ts.eraseIdx (leastN ltE (ts.map RT.root) (ts.length-1))))))).length vc] 39∧Own wL ML br [.slice none 0 0] 39∧ML b1=some ([.slice (some ⟨g,o,none⟩) ts.length lc],39)∧Row T5 6 ML ((bs.take i).foldl (fun h x=>sinsert ltE x h) (bmeld ltE ks.reverse (slevel ltE (ts.eraseIdx (leastN ltE (ts.map RT.root) (ts.length-1)))))) (.slice va (((bs.take i).foldl (fun h x=>sinsert ltE x h) (bmeld ltE ks.reverse (slevel ltE (ts.eraseIdx (leastN ltE (ts.map RT.root) (ts.length-1))))))).length vc)) (bs.length) [(1, .pointer (some ⟨b1,0,none⟩)),(2, .pointer (some ⟨br,0,none⟩)),(4, .int .i64 (leastN ltE (ts.map RT.root) (ts.length-1):Nat)),(12, .pointer (some ⟨bo,0,none⟩)),(13,wv (ts.length-1+slevelC ltE (ts.eraseIdx (leastN ltE (ts.map RT.root) (ts.length-1)))+bmeldC ltE ks.reverse (slevel ltE (ts.eraseIdx (leastN ltE (ts.map RT.root) (ts.length-1)))))),(14, .int .i64 ((0:Nat):Int))] (.cons rfl (.cons rfl (.cons rfl (.cons rfl (.cons rfl (.cons rfl (.nil _))))))) ?_ ?_
  ·exact ⟨0,_,_,_,_,rfl,Nat.zero_le _,rfl,rfl,hT,hoo,hor,hb1,hm⟩
  have hBo:w.heap.size≤bo∧bo≠br:=⟨by omega,fun h=>by omega⟩
  clear hT hb1 hor hl hB hQ hm hoo hlv hrz
  have hl:=hl0
  have hB:=hB0
  rintro mm l1 wL ⟨i,c,va,vc,ML,rfl,hi,hcc,rfl,hT,hoo,hor,hb1,hm⟩
  have:=hoo.1.lt
  have:=hor.1.lt
  refine cw_seq fun _ hK22=>Ri fun Z=>Qm rfl<|Qf 0 rfl<|Q1 rfl (BC hT hb1 rfl)<|Qm rfl<|Qq rfl (qi 196 6 rfl)<|Qf 3 rfl<|Q1 rfl ((hat _ _ hT.le hT.sat).2 3 _ rfl)<|Qq rfl (ql rfl)<|Qq rfl (q_lt rfl rfl)<|Nx Z<|cw_cond rfl (fun hc2=>?_) (fun hc2=>?_)
  ·have hlt:i<bs.length:=by have:=of_decide_eq_true hc2; omega
   obtain ⟨y,hy0⟩:∃ y,bs[i]? = some y:=⟨bs[i],by simp⟩
   obtain ⟨gb,ob,yc,e_,_,hy,haty⟩:=hB0.get encE_ok hy0
   subst e_
   cases hy
   have htk0:bs.take (i+1)=bs.take i++[y]:=by rw [List.take_add_one,hy0]; rfl
   have htk:((bs.take (i+1)).foldl (fun h x=>sinsert ltE x h) (bmeld ltE ks.reverse (slevel ltE (ts.eraseIdx (leastN ltE (ts.map RT.root) (ts.length-1))))))=sinsert ltE y ((bs.take i).foldl (fun h x=>sinsert ltE x h) (bmeld ltE ks.reverse (slevel ltE (ts.eraseIdx (leastN ltE (ts.map RT.root) (ts.length-1)))))):=by rw [htk0,List.foldl_append]; rfl
   have htc:sinsertsC ltE (bs.take (i+1)) (bmeld ltE ks.reverse (slevel ltE (ts.eraseIdx (leastN ltE (ts.map RT.root) (ts.length-1)))))=sinsertsC ltE (bs.take i) (bmeld ltE ks.reverse (slevel ltE (ts.eraseIdx (leastN ltE (ts.map RT.root) (ts.length-1)))))+sinsertC ((bs.take i).foldl (fun h x=>sinsert ltE x h) (bmeld ltE ks.reverse (slevel ltE (ts.eraseIdx (leastN ltE (ts.map RT.root) (ts.length-1)))))):=by rw [htk0,sinsertsC_snoc]
   have hsz:=sins_size (lt:=ltE) (bs.take i) (bmeld ltE ks.reverse (slevel ltE (ts.eraseIdx (leastN ltE (ts.map RT.root) (ts.length-1)))))
   rw [bmeld_size,sizes_rev,slevel_size,List.length_take] at hsz
   refine cw_skip<|hK22 _ _<|cw_seq fun _ hK24=>cw_block ?_
   have hcut12:=hT.size
   refine cw_rdS (fun l12 w12=>∃ (M12:Mem mb) (bn:Nat) (na:Option Addr) (nc:Nat),l12=[(1, .pointer (some ⟨b1,0,none⟩)),(2, .pointer (some ⟨br,0,none⟩)),(4, .int .i64 (leastN ltE (ts.map RT.root) (ts.length-1):Nat)),(12, .pointer (some ⟨bo,0,none⟩)),(13,wv c),(14, .int .i64 (i:Nat)),(15, .pointer (some ⟨bn,0,none⟩)),(16,wv (sinsertC ((bs.take i).foldl (fun h x=>sinsert ltE x h) (bmeld ltE ks.reverse (slevel ltE (ts.eraseIdx (leastN ltE (ts.map RT.root) (ts.length-1))))))))]∧Step Nope ML wL M12 w12∧Own w12 M12 bn [.slice na (sinsert ltE y ((bs.take i).foldl (fun h x=>sinsert ltE x h) (bmeld ltE ks.reverse (slevel ltE (ts.eraseIdx (leastN ltE (ts.map RT.root) (ts.length-1))))))).length nc] 39∧wL.heap.size≤bn∧Row T5 6 M12 (sinsert ltE y ((bs.take i).foldl (fun h x=>sinsert ltE x h) (bmeld ltE ks.reverse (slevel ltE (ts.eraseIdx (leastN ltE (ts.map RT.root) (ts.length-1))))))) (.slice na (sinsert ltE y ((bs.take i).foldl (fun h x=>sinsert ltE x h) (bmeld ltE ks.reverse (slevel ltE (ts.eraseIdx (leastN ltE (ts.map RT.root) (ts.length-1))))))).length nc)) V V V rfl rfl ?_ ?_
   ·have hR:=Step.refl Nope hT.sat
    have hs13:=Step.drew hT.sat
    have:=hs13.size
    refine Gf 0 1 0 rfl<|G1 1 3 rfl (BC hs13 hb1 rfl)<|Gm 2 7 rfl<|Gq 3 15 rfl (fun _=>qi 196 6 rfl)<|Gf 4 31 3 rfl ?_
    have hT:=hT.t hs13
    refine G1 5 63 rfl ((hat _ _ hT.le hT.sat).2 3 _ rfl)<|Gm 6 127 rfl<|Gq 7 255 rfl (fun _=>qi 29 2 rfl)<|Gc 8 511 2 rfl (haty _ _ hT.le hT.sat) ?_
    have hoo:=hoo.t hs13
    refine Gc 9 1023 1 rfl (OD hoo rfl) ?_
    have hor:=hor.t hs13
    have hR:=hR.t hs13
    refine at_two (i:=10) (j:=14) V ?_ ?_
    ·refine Gi 10 2047 rfl (Ks [T,T,F,F]) (h_call V rfl ?_)
     refine (r9_insert (x:=y) hs13.sat hm O).mono ?_
     rintro _ w14 ⟨mv,Mi,rfl,hs14,hn⟩
     obtain ⟨na,nc,rfl,_⟩:=hn.slice
     have:=hs14.size
     have hb1:=hs14.le _ _ hb1
     have hoo:=hoo.t hs14
     have hor:=hor.t hs14
     have hm:=hm.mono t5_ok hs14.le
     have hT:=hT.t hs14
     have hR:=hR.t hs14
     refine ⟨(by repeat' first | exact trivial | exact BC hs14 hb1 rfl | exact ((hat _ _ hT.le hT.sat).2 3 _ rfl) | refine And.intro ?_ ?_),?_⟩
     refine Gm 11 4095 rfl<|Gq 12 8191 rfl (fun _=>q_extract rfl rfl)<|Gq 13 16383 rfl (fun _=>q_extract rfl rfl) ?_
     have hqan:=hT.size
     refine Gh 14 32767 rfl (Ks [F,F]) (h_allocO (z:=(.agg #[(.slice none 0 0)])) hs14.sat V rfl fun bn w15 hs15 hon en=>?_)
     have:=hs15.size
     have hln:=hon.1.lt
     have hoo:=hoo.t hs15
     have hor:=hor.t hs15
     have hT:=hT.t hs15
     have hR:=hR.t hs15
     refine ⟨(by repeat' first | exact trivial | exact BC hs15 hb1 rfl | exact ((hat _ _ hT.le hT.sat).2 3 _ rfl) | refine And.intro ?_ ?_),?_⟩
     refine G0 15 65535 rfl (Ks [T,T]) (h_store hs15.sat hon rfl rfl rfl V rfl rfl rfl fun w16 hs16 hn16=>?_)
     clear hon; have hon:=hn16; clear hn16
     have:=hs16.size
     refine ⟨trivial,?_⟩
     refine Ga 16 131071 rfl<|Dd V ?_
     have hR:=hR.o hs16
     exact ⟨_,(.cons rfl (.cons rfl (.cons rfl (.cons rfl (.cons rfl (.cons rfl (.cons rfl (.cons rfl (.nil _))))))))),_,_,_,_,rfl,hR,hon,by omega,hn⟩
    ·have hqan:=hT.size
     refine Gi 14 17407 rfl (Ks [F,F,F,F]) (h_allocO (z:=(.agg #[(.slice none 0 0)])) hs13.sat V rfl fun bn w17 hs17 hon en=>?_)
     have:=hs17.size
     have hln:=hon.1.lt
     have hoo:=hoo.t hs17
     have hor:=hor.t hs17
     have hT:=hT.t hs17
     have hR:=hR.t hs17
     refine ⟨(by repeat' first | exact trivial | exact BC hs17 hb1 rfl | exact OD hoo rfl | exact ((hat _ _ hT.le hT.sat).2 3 _ rfl) | exact (haty _ _ hT.le hT.sat) | refine And.intro ?_ ?_),?_⟩
     refine Gh 10 18431 rfl (Ks [T,T,F,F]) (h_call V rfl ?_)
     refine (r9_insert (x:=y) hs17.sat hm O).mono ?_
     rintro _ w18 ⟨mv,Mi,rfl,hs18,hn⟩
     obtain ⟨na,nc,rfl,_⟩:=hn.slice
     have:=hs18.size
     have hb1:=hs18.le _ _ hb1
     have hoo:=hoo.t hs18
     have hor:=hor.t hs18
     have hm:=hm.mono t5_ok hs18.le
     have hon:=hon.t hs18
     have hT:=hT.t hs18
     have hR:=hR.t hs18
     refine ⟨(by repeat' first | exact trivial | exact BC hs18 hb1 rfl | exact ((hat _ _ hT.le hT.sat).2 3 _ rfl) | refine And.intro ?_ ?_),?_⟩
     refine Gm 11 20479 rfl<|Gq 12 24575 rfl (fun _=>q_extract rfl rfl)<|Gq 13 32767 rfl (fun _=>q_extract rfl rfl)<|G0 15 65535 rfl (Ks [T,T]) (h_store hs18.sat hon rfl rfl rfl V rfl rfl rfl fun w19 hs19 hn19=>?_)
     clear hon; have hon:=hn19; clear hn19
     have:=hs19.size
     refine ⟨trivial,?_⟩
     refine Ga 16 131071 rfl<|Dd V ?_
     have hR:=hR.o hs19
     exact ⟨_,(.cons rfl (.cons rfl (.cons rfl (.cons rfl (.cons rfl (.cons rfl (.cons rfl (.cons rfl (.nil _))))))))),_,_,_,_,rfl,hR,hon,by omega,hn⟩
   rintro l12 w12 ⟨M12,bn,na,nc,rfl,hs12,hon,hw12,hn⟩
   have:=hs12.size
   have hln:=hon.1.lt
   refine Ri fun Z=>Qc 1 rfl (OD hon rfl) ?_
   have hoo:=hoo.t hs12
   refine St hs12.sat hoo rfl fun w20 hs20 hoo=>?_
   have:=hs20.size
   refine Nx Z<|cw_region fun _ Z=>Qm rfl<|Qm rfl<|Qq rfl (q_addw rfl rfl)<|Qa rfl<|as_nil (Z _ _ ?_)
   refine hK24 _ _<|cw_region fun _ Z=>Qm rfl<|Qq rfl (qA rfl)<|Qa rfl<|as_nil (Z _ _ ?_)
   have hb1:=hs12.le _ _ hb1
   have hor:=hor.t hs12 |>.u hs20
   have hm:=hm.mono t5_ok hs12.le
   have hT:=hT.t hs12 |>.o hs20
   refine ⟨_,_,?_,(.cons rfl (.cons rfl (.cons rfl (.cons rfl (.cons rfl (.cons rfl (.nil _))))))),i+1,_,_,_,_,rfl,by omega,?_,rfl,hT,by rw [htk]; exact hoo,hor,hb1,by rw [htk]; exact hn⟩
   ·omega
   ·rw [hcc,htc]; omega
  ·have hge:i=bs.length:=by have:=of_decide_eq_false hc2; omega
   subst hge
   rw [List.take_length] at hm hoo hcc
   refine cw_exit<|hK20 _ _<|Ri fun Z=>Qc 1 rfl (OD hoo rfl)<|Qm rfl<|St hT.sat hor rfl fun w21 hs21 hor=>?_
   have:=hs21.size
   refine Na rfl Z<|cw_ret ?_
   have hT:=hT.o hs21
   exact ⟨_,(Rc 1 rfl (OD hor rfl) (Rt rfl)),_,_,tup_eq (by rw [hcc,spopC]; rfl),hT,hm⟩
end Go.Proofs.YtnnldppehojffaaGreat
/- The reference of heaps whose others are heaps, part 1. -/
namespace Go.Proofs.YtnnldppehojffaaGreat
open Go Go.Eng
variable {mb:Option Nat} {w:World} {M:Mem mb}
end Go.Proofs.YtnnldppehojffaaGreat
namespace Go.Eng
open Go
variable {mb:Option Nat} {w:World} {M:Mem mb}
theorem B11.full {M:Raw} {t:Bt} {cs:List Value} (h:B11 M t cs) (hn:t≠ .nil):∃ (a:Option Addr) (n c:Nat),cs=[.bool true, .int .i64 t.key.1, .int .i64 t.key.2, .slice a n c]:=by
 cases t with
 | nil=>exact absurd rfl hn
 | node x ts=>obtain ⟨a,c,h,_⟩:=b11_node.1 h; exact ⟨a,_,c,h⟩
theorem T11.shape {M:Raw} {t:RT Bt} {cs:List Value} (h:T11 M t cs):∃ (ra ba ka:Option Addr) (nb nk rc bc kc:Nat),cs=[.int .i64 (t.rank:Nat), .slice ra 1 rc, .slice ba nb bc, .slice ka nk kc]:=by
 cases t
 obtain ⟨ra,ba,ka,rc,bc,kc,h,_⟩:=t11_iff.1 h
 exact ⟨ra,ba,ka,_,_,rc,bc,kc,h⟩
theorem T11.open {M:Raw} {t:RT Bt} {z:Int} {ra ba ka:Option Addr} {nr nb nk rc bc kc:Nat} (h:T11 M t [.int .i64 z, .slice ra nr rc, .slice ba nb bc, .slice ka nk kc]):Row B11 4 M [t.root] (.slice ra nr rc)∧Row B11 4 M t.beside (.slice ba nb bc)∧Row T11 4 M t.kids (.slice ka nk kc):=by
 cases t
 obtain ⟨_,_,_,_,_,_,hc,h1,h2,h3⟩:=t11_iff.1 h
 simp only [List.cons.injEq,Value.slice.injEq,and_true] at hc
 obtain ⟨_,⟨rfl,rfl,rfl⟩,⟨rfl,rfl,rfl⟩,rfl,rfl,rfl⟩:=hc
 exact ⟨h1,h2,h3⟩
theorem okT_root {t:RT Bt} (h:Bt.okT t):t.root≠ .nil:=by cases t; simp only [Bt.okT] at h; exact h.1.1
theorem okT_kids {t:RT Bt} (h:Bt.okT t):Bt.okQ t.kids:=by cases t; simp only [Bt.okT] at h; exact h.2.2
theorem okT_beside {t:RT Bt} (h:Bt.okT t):Bt.okL t.beside:=by cases t; simp only [Bt.okT] at h; exact h.2.1
theorem okQ_iff:∀ {l:List (RT Bt)},Bt.okQ l↔∀ t ∈ l,Bt.okT t
 | []=>by simp [Bt.okQ]
 | k::r=>by simp only [Bt.okQ,okQ_iff (l:=r),List.forall_mem_cons]
theorem okQ_get {l:List (RT Bt)} {i:Nat} {t:RT Bt} (h:Bt.okQ l) (ht:l[i]? = some t):Bt.okT t:=okQ_iff.1 h t (List.mem_of_getElem? ht)
theorem okT_link {a b:RT Bt} (ha:Bt.okT a) (hb:Bt.okT b):Bt.okT (RT.link ltB a b):=(Bt.okT_all _).1 (Bt.okL_perm (RT.link_all a b) ((Bt.okL_append _ _).2 ⟨(Bt.okT_all _).2 ha,(Bt.okT_all _).2 hb⟩))
theorem okQ_meld {a b:List (RT Bt)} (ha:Bt.okQ a) (hb:Bt.okQ b):Bt.okQ (bmeld ltB a b):=(Bt.okQ_alls _).1 (Bt.okL_perm (bmeld_alls a b) ((Bt.okL_append _ _).2 ⟨(Bt.okQ_alls _).2 ha,(Bt.okQ_alls _).2 hb⟩))
theorem okQ_level {a:List (RT Bt)} (ha:Bt.okQ a):Bt.okQ (slevel ltB a):=(Bt.okQ_alls _).1 (Bt.okL_perm (slevel_alls a) ((Bt.okQ_alls _).2 ha))
theorem okQ_sins {bs:List Bt} {a:List (RT Bt)} (hb:Bt.okL bs) (ha:Bt.okQ a):Bt.okQ (bs.foldl (fun h x=>sinsert ltB x h) a):=(Bt.okQ_alls _).1 (Bt.okL_perm (sins_alls bs a) ((Bt.okL_append _ _).2 ⟨hb,(Bt.okQ_alls _).2 ha⟩))
theorem skew_eq {α:Type} {lt:α→α→Bool} {x:α} {a b:RT α}:RT.skew lt x a b=if lt (RT.link lt a b).root x then .node (RT.link lt a b).root (x::(RT.link lt a b).beside) (RT.link lt a b).kids else .node x ((RT.link lt a b).root::(RT.link lt a b).beside) (RT.link lt a b).kids:=by
 unfold RT.skew
 cases RT.link lt a b
 rfl
theorem beside_le {α:Type} (t:RT α):1+t.beside.length+RT.sizes t.kids=t.size:=by cases t; rfl
end Go.Eng
namespace Go.Proofs.YtnnldppehojffaaGreat
open Go Go.Eng
variable {mb:Option Nat} {w:World} {M:Mem mb}
theorem r11_link_n {x y:Bt} {bs ls:List Bt} {ks ms:List (RT Bt)} {ca cb:List Value} (hs:Sat M w) (ha:T11 M (.node x bs ks) ca) (hb:T11 M (.node y ls ms) cb) (hx:x≠ .nil) (hy:y≠ .nil) (hz:(RT.node x bs ks).size+(RT.node y ls ms).size≤1000000000):
  Dz 103 #[.agg ca.toArray, .agg cb.toArray] w (fun v w'=>∃ cv M',v = .agg cv.toArray∧Step Nope M w M' w'∧T11 M' (RT.link ltB (.node x bs ks) (.node y ls ms)) cv):=by
 have hT:=hs.r
 obtain ⟨raa,baa,kaa,rca,bca,kca,rfl,hRa,hBa,hKa⟩:=t11_iff.1 ha
 obtain ⟨rab,bab,kab,rcb,bcb,kcb,rfl,hRb,hBb,hKb⟩:=t11_iff.1 hb
 simp only [RT.size] at hz
 have hl1:=RT.sizes_length ks
 have hl2:=RT.sizes_length ms
 obtain ⟨gra,ora,rcsa,era_,_,hra,hatra⟩:=hRa.get b11_ok (i:=0) rfl
 subst era_
 obtain ⟨paa,pna,pca,rfl⟩:=hra.full hx
 obtain ⟨grb,orb,rcsb,erb_,_,hrb,hatrb⟩:=hRb.get b11_ok (i:=0) rfl
 subst erb_
 obtain ⟨pab,pnb,pcb,rfl⟩:=hrb.full hy
 refine Fe Tryz.func103 [.cell 4 209] rfl<|Ri fun Z=>Bm hs rfl fun b1 M1 w1 hs1 hb1 e1=>?_
 have:=hs1.size
 refine Bm hs1.sat rfl fun b2 M2 w2 hs2 hb2 e2=>?_
 have:=hs2.size
 have hT:=hT.t hs1 |>.t hs2
 have:=hT.size
 refine Al (.agg #[(.int .i64 0),(.slice none 0 0),(.slice none 0 0),(.slice none 0 0)]) hs2.sat rfl fun br w3 hs3 hor er=>?_
 have:=hs3.size
 have:=hor.1.lt
 refine Nr Z fun Z=>?_
 have hb1:=hs2.le _ _ hb1
 refine Qc 4 rfl (BD hs3 hb1 rfl) ?_
 have hT:=hT.t hs3
 have:=hT.size
 refine Al (.agg #[(.int .i64 0),(.slice none 0 0),(.slice none 0 0),(.slice none 0 0)]) hs3.sat rfl fun bwi w4 hs4 howi ewi=>?_
 have:=hs4.size
 have:=howi.1.lt
 refine St hs4.sat howi rfl fun w5 hs5 howi=>?_
 have:=hs5.size
 refine Nr Z fun Z=>Qc 4 rfl (BD hs5 hb2 rfl) ?_
 have hT:=hT.t hs4 |>.o hs5
 have:=hT.size
 refine Al (.agg #[(.int .i64 0),(.slice none 0 0),(.slice none 0 0),(.slice none 0 0)]) hs5.sat rfl fun blo w6 hs6 holo elo=>?_
 have:=hs6.size
 have:=holo.1.lt
 refine St hs6.sat holo rfl fun w7 hs7 holo=>?_
 have:=hs7.size
 refine Nx Z<|Rv fun Z=>?_
 have hs8:=Step.drew hs7.sat
 have:=hs8.size
 refine Gf 0 1 1 rfl<|G1 1 3 rfl (BC hs8 hb2 rfl)<|Gq 2 7 rfl (fun _=>qi 44 4 rfl)<|Gf 3 15 1 rfl ?_
 have hT:=hT.t hs6 |>.o hs7 |>.t hs8
 refine Gc 4 31 2 rfl (cells_in (j:=1) (k:=2) (hatrb _ _ hT.le hT.sat) rfl rfl)<|Gf 5 63 1 rfl<|G1 6 127 rfl (BC hs8 hb1 rfl)<|Gq 7 255 rfl (fun _=>qi 44 4 rfl)<|Gf 8 511 1 rfl<|Gc 9 1023 2 rfl (cells_in (j:=1) (k:=2) (hatra _ _ hT.le hT.sat) rfl rfl)<|Gh 10 2047 rfl (Ks [T,F,T,F]) (h_call V rfl ?_)
 refine (ref_less (a:=y.key) (b:=x.key) hs8.sat).mono ?_
 rintro _ w9 ⟨rfl,hs9⟩
 have:=hs9.size
 have hRa:=hRa.mono b11_ok hs1.le |>.mono b11_ok hs2.le
 have hBa:=hBa.mono b11_ok hs1.le |>.mono b11_ok hs2.le
 have hKa:=hKa.mono t11_ok hs1.le |>.mono t11_ok hs2.le
 have hRb:=hRb.mono b11_ok hs1.le |>.mono b11_ok hs2.le
 have hBb:=hBb.mono b11_ok hs1.le |>.mono b11_ok hs2.le
 have hKb:=hKb.mono t11_ok hs1.le |>.mono t11_ok hs2.le
 have ha:=t11_ok.mono _ _ _ _ hs2.le (t11_ok.mono _ _ _ _ hs1.le ha)
 have hb:=t11_ok.mono _ _ _ _ hs2.le (t11_ok.mono _ _ _ _ hs1.le hb)
 have hor:=hor.t hs4 |>.u hs5 |>.t hs6 |>.u hs7 |>.t hs8 |>.t hs9
 have howi:=howi.t hs6 |>.u hs7 |>.t hs8 |>.t hs9
 have holo:=holo.t hs8 |>.t hs9
 have hT:=hT.t hs9
 refine ⟨(by repeat' first | exact trivial | exact BC hs9 hb1 rfl | exact BC hs9 hb2 rfl | refine And.intro ?_ ?_),?_⟩
 refine Ga 11 4095 rfl<|Dx Z<|cw_seq fun _ hK5=>Ri fun Z=>Qm rfl<|Nx Z<|cw_cond rfl (fun hc0=>?_) (fun hc0=>?_)
 ·skip
  refine Ri fun Z=>Qc 4 rfl (BD hs9 hb2 rfl)<|St hs9.sat howi rfl fun w10 hs10 howi=>?_
  have:=hs10.size
  refine Nx Z<|cw_region fun _ Z=>Qc 4 rfl (BD hs10 hb1 rfl) ?_
  have holo:=holo.u hs10
  refine St hs10.sat holo rfl fun w11 hs11 holo=>?_
  have:=hs11.size
  refine as_nil (Z _ _ ?_)
  refine hK5 _ _<|Ri fun Z=>Qc 4 rfl (OD holo rfl)<|as_h rfl (h_buildO (e:=209) (size:=4) (zs:=[(.int .i64 0),(.slice none 0 0),(.slice none 0 0),(.slice none 0 0)]) (cs:=[_,_,_,_]) V V V rfl hs11.sat rfl rfl fun bK w12 hs12 hoK eK=>?_)
  have:=hs12.size
  have hlK:=hoK.1.lt
  refine Nar rfl Z fun Z=>Qm rfl<|Qf 3 rfl ?_
  have howi:=howi.u hs11 |>.t hs12
  refine Q1 rfl (OC howi rfl) ?_
  have hT:=hT.o hs10 |>.o hs11 |>.t hs12
  refine as_h rfl (h_cons t11_ok (e:=209) (bytes:=80) V hT hoK ha hKb rfl rfl (by have:=hz; omega) rfl O fun vk9 Mk9 w13 hT hle13 hown13 hz13 hk9=>?_)
  have ha:=t11_ok.mono _ _ _ _ hle13 ha
  have hb:=t11_ok.mono _ _ _ _ hle13 hb
  have hb1:=hle13 _ _ hb1
  have hb2:=hle13 _ _ hb2
  have hor:=hor.u hs10 |>.u hs11 |>.t hs12
  have hor:=hown13 _ _ _ O hor
  have howi:=hown13 _ _ _ O howi
  have holo:=holo.t hs12
  have holo:=hown13 _ _ _ O holo
  obtain ⟨ak9,ck9,rfl,_⟩:=hk9.slice
  refine Nar rfl Z fun Z=>Qf 0 rfl<|Q1 rfl (OC howi rfl)<|Qq rfl (qA rfl)<|Qf 1 rfl<|Q1 rfl (OC howi rfl)<|Qf 2 rfl<|Q1 rfl (OC howi rfl)<|Qm rfl<|Qq rfl (q_build (zs:=[(.int .i64 0),(.slice none 0 0),(.slice none 0 0),(.slice none 0 0)]) (places:=[(0,1),(1,1),(2,1),(3,1)]) (cs:=[_,_,_,_]) V V rfl rfl)<|St hT.sat hor rfl fun w14 hs14 hor=>?_
  have:=hs14.size
  refine Nx Z<|cw_ret ?_
  have hRb:=hRb.mono b11_ok hle13
  have hBb:=hBb.mono b11_ok hle13
  have hT:=hT.o hs14
  exact ⟨_,(Rc 4 rfl (OD hor rfl) res_nil),_,_,rfl,hT,by rw [RT.link,if_pos (show ltB (RT.node y ls ms).root (RT.node x bs ks).root=true from hc0)]; exact t11_mk (by simp only [RT.kids,List.length_cons]; omega) hRb hBb hk9⟩
 ·skip
  refine cw_skip<|hK5 _ _<|Ri fun Z=>Qc 4 rfl (OD holo rfl)<|as_h rfl (h_buildO (e:=209) (size:=4) (zs:=[(.int .i64 0),(.slice none 0 0),(.slice none 0 0),(.slice none 0 0)]) (cs:=[_,_,_,_]) V V V rfl hs9.sat rfl rfl fun bK w15 hs15 hoK eK=>?_)
  have:=hs15.size
  have hlK:=hoK.1.lt
  refine Nar rfl Z fun Z=>Qm rfl<|Qf 3 rfl ?_
  have howi:=howi.t hs15
  refine Q1 rfl (OC howi rfl) ?_
  have hT:=hT.t hs15
  refine as_h rfl (h_cons t11_ok (e:=209) (bytes:=80) V hT hoK hb hKa rfl rfl (by have:=hz; omega) rfl O fun vk9 Mk9 w16 hT hle16 hown16 hz16 hk9=>?_)
  have ha:=t11_ok.mono _ _ _ _ hle16 ha
  have hb:=t11_ok.mono _ _ _ _ hle16 hb
  have hb1:=hle16 _ _ hb1
  have hb2:=hle16 _ _ hb2
  have hor:=hor.t hs15
  have hor:=hown16 _ _ _ O hor
  have howi:=hown16 _ _ _ O howi
  have holo:=holo.t hs15
  have holo:=hown16 _ _ _ O holo
  obtain ⟨ak9,ck9,rfl,_⟩:=hk9.slice
  refine Nar rfl Z fun Z=>Qf 0 rfl<|Q1 rfl (OC howi rfl)<|Qq rfl (qA rfl)<|Qf 1 rfl<|Q1 rfl (OC howi rfl)<|Qf 2 rfl<|Q1 rfl (OC howi rfl)<|Qm rfl<|Qq rfl (q_build (zs:=[(.int .i64 0),(.slice none 0 0),(.slice none 0 0),(.slice none 0 0)]) (places:=[(0,1),(1,1),(2,1),(3,1)]) (cs:=[_,_,_,_]) V V rfl rfl)<|St hT.sat hor rfl fun w17 hs17 hor=>?_
  have:=hs17.size
  refine Nx Z<|cw_ret ?_
  have hRa:=hRa.mono b11_ok hle16
  have hBa:=hBa.mono b11_ok hle16
  have hT:=hT.o hs17
  exact ⟨_,(Rc 4 rfl (OD hor rfl) res_nil),_,_,rfl,hT,by rw [RT.link,if_neg (show ¬ ltB (RT.node y ls ms).root (RT.node x bs ks).root=true by rw [show ltB (RT.node y ls ms).root (RT.node x bs ks).root=false from hc0]; decide)]; exact t11_mk (by simp only [RT.kids,List.length_cons]; omega) hRa hBa hk9⟩
theorem r11_link {a b:RT Bt} {ca cb:List Value} (hs:Sat M w) (ha:T11 M a ca) (hb:T11 M b cb) (hx:Bt.okT a) (hy:Bt.okT b) (hz:a.size+b.size≤1000000000):
  Dz 103 #[.agg ca.toArray, .agg cb.toArray] w (fun v w'=>∃ cv M',v = .agg cv.toArray∧Step Nope M w M' w'∧T11 M' (RT.link ltB a b) cv):=by
 cases a; cases b; exact r11_link_n hs ha hb (okT_root hx) (okT_root hy) hz
theorem r11_ins_n {x:Bt} {xc:List Value} {ts:List (RT Bt)} {lv:Value} (hs:Sat M w) (hx:B11 M x xc) (hxn:x≠ .nil) (hl:Row T11 4 M ts lv) (hz1:ts.length≤1):
  Dz 88 #[.agg xc.toArray,lv] w (fun v w'=>∃ v' M',v = .tuple #[v',wv (1)]∧Step Nope M w M' w'∧Row T11 4 M' (RT.leaf x::ts) v'):=by
 have hT:=hs.r
 obtain ⟨la,lc,rfl,_⟩:=hl.slice
 obtain ⟨xa,xn,xcc,rfl⟩:=hx.full hxn
 refine Fe Tryz.func88 [.tmp 4, .tmp 5] rfl<|Ri fun Z=>Bm hs rfl fun b1 M1 w1 hs1 hb1 e1=>?_
 have hz1:=hs1.size
 refine Qa rfl<|Na rfl Z<|cw_seq fun _ hK2=>Rv fun Z=>?_
 have hs2:=Step.drew hs1.sat
 have:=hs2.size
 refine Gm 0 1 rfl<|Gq 1 3 rfl (fun _=>ql rfl)<|Gq 2 7 rfl (fun _=>qLT rfl)<|Gm 3 15 rfl<|Dgs 4 31 rfl V rfl rfl<|Dgs 5 63 rfl V rfl rfl<|Dgs 6 127 rfl V rfl rfl<|Dgs 7 255 rfl V rfl rfl<|Dgs 8 511 rfl V rfl rfl<|Dgs 9 1023 rfl V rfl rfl<|Dgs 10 2047 rfl V rfl rfl<|Dgs 11 4095 rfl V rfl rfl<|Dgs 12 8191 rfl V rfl rfl<|Gq 13 16383 rfl (fun _=>q_pick_t rfl rfl)<|Dx Z<|cw_true rfl<|Ri fun Z=>Qc 4 rfl (BD hs2 hb1 rfl)<|as_h rfl (h_buildM (e:=44) (size:=4) (zs:=[(.bool false),(.int .i64 0),(.int .i64 0),(.slice none 0 0)]) (cs:=[_,_,_,_]) V V V rfl hs2.sat rfl rfl rfl fun bX MX w3 hs3 hrX eX=>?_)
 have:=hs3.size
 refine Qq rfl (q_build (zs:=[(.int .i64 0),(.slice none 0 0),(.slice none 0 0),(.slice none 0 0)]) (places:=[(0,1),(1,1),(2,1),(3,1)]) (cs:=[_,_,_,_]) V V rfl rfl)<|as_h rfl (h_buildO (e:=209) (size:=4) (zs:=[(.int .i64 0),(.slice none 0 0),(.slice none 0 0),(.slice none 0 0)]) (cs:=[_,_,_,_]) V V V rfl hs3.sat rfl rfl fun bK w4 hs4 hoK eK=>?_)
 have:=hs4.size
 have:=hoK.1.lt
 refine Nar rfl Z fun Z=>Qm rfl<|Qm rfl ?_
 have hx:=b11_ok.mono _ _ _ _ hs3.le (b11_ok.mono _ _ _ _ hs1.le hx)
 have hl:=hl.mono t11_ok hs1.le |>.mono t11_ok hs3.le
 have hT:=hT.t hs1 |>.t hs2 |>.t hs3 |>.t hs4
 refine as_h rfl (h_cons t11_ok (e:=209) (bytes:=80) V hT hoK (t11_mk (x:=x) (bs:=[]) (ks:=[]) rfl (Row.one b11_ok hrX hx) Row.none Row.none) hl rfl rfl (by have:=hz1; omega) rfl O fun vk9 Mk9 w5 hT hle5 hown5 hz5 hk9=>?_)
 have hx:=b11_ok.mono _ _ _ _ hle5 hx
 have hb1:=hs3.le _ _ hb1
 have hb1:=hle5 _ _ hb1
 obtain ⟨ak9,ck9,rfl,_⟩:=hk9.slice
 refine Qa rfl<|Na rfl Z<|cw_ret ?_
 exact ⟨_,(res_tmp rfl (Rt rfl)),_,_,tup1,hT,hk9⟩
theorem r11_ins_c {x:Bt} {xc:List Value} {a b:RT Bt} {r:List (RT Bt)} {lv:Value} (hs:Sat M w) (hx:B11 M x xc) (hxn:x≠ .nil) (hl:Row T11 4 M (a::b::r) lv) (hoT:Bt.okQ (a::b::r)) (hz:RT.sizes (a::b::r)<1000000000):
  Dz 88 #[.agg xc.toArray,lv] w (fun v w'=>∃ v' M',v = .tuple #[v',wv (sinsertC (a::b::r))]∧Step Nope M w M' w'∧Row T11 4 M' (sinsert ltB x (a::b::r)) v'):=by
 have hT:=hs.r
 obtain ⟨la,lc,rfl,_⟩:=hl.slice
 obtain ⟨xa,xn,xcc,rfl⟩:=hx.full hxn
 simp only [Bt.okQ] at hoT
 have hlc:(a::b::r).length=r.length+2:=rfl
 have hln:=RT.sizes_length (a::b::r)
 have hq1:=RT.sizes_cons a (b::r)
 have hq2:=RT.sizes_cons b r
 obtain ⟨ga,oa,fca,ea_,_,hfa,hata⟩:=hl.get t11_ok (i:=0) (t:=a) rfl
 cases ea_
 obtain ⟨aara,aaba,aaka,aanb,aank,aarc,aabc,aakc,rfl⟩:=hfa.shape
 obtain ⟨gb,ob,fcb,eb_,_,hfb,hatb⟩:=hl.get t11_ok (i:=1) (t:=b) rfl
 cases eb_
 obtain ⟨bbra,bbba,bbka,bbnb,bbnk,bbrc,bbbc,bbkc,rfl⟩:=hfb.shape
 refine Fe Tryz.func88 [.tmp 4, .tmp 5] rfl<|Ri fun Z=>Bm hs rfl fun b1 M1 w1 hs1 hb1 e1=>?_
 have:=hs1.size
 refine Qa rfl<|Na rfl Z<|cw_seq fun _ hK2=>Rv fun Z=>?_
 have hs2:=Step.drew hs1.sat
 have:=hs2.size
 refine Gm 0 1 rfl<|Gq 1 3 rfl (fun _=>ql rfl)<|Gq 2 7 rfl (fun _=>qLF rfl)<|Gm 3 15 rfl<|Dgq 4 31 rfl V rfl rfl (fun _=>q_move rfl)<|Dgq 5 63 rfl V rfl rfl (fun _=>qi 209 4 rfl)<|Dgq 6 127 rfl V rfl rfl (fun _=>(q_fieldAddr (off:=0) V rfl)) ?_
 have hT:=hT.t hs1 |>.t hs2
 refine at_gq (i:=7) (li:=lb 14 255) (cellIs _ _ _) rfl V rfl rfl rfl rfl (fun _ h=>q_load1 V rfl h) ((hata _ _ hT.le hT.sat).2 0 _ rfl) V<|Dgq 8 511 rfl V rfl rfl (fun _=>q_move rfl)<|Dgq 9 1023 rfl V rfl rfl (fun _=>qi 209 4 rfl)<|Dgq 10 2047 rfl V rfl rfl (fun _=>(q_fieldAddr (off:=0) V rfl))<|at_gq (i:=11) (li:=lb 14 4095) (cellIs _ _ _) rfl V rfl rfl rfl rfl (fun _ h=>q_load1 V rfl h) ((hatb _ _ hT.le hT.sat).2 0 _ rfl) V<|Dgq 12 8191 rfl V rfl rfl (fun _=>q_ne rfl rfl)<|Gq 13 16383 rfl (fun _=>q_pick_f rfl rfl)<|Dx Z ?_
 have hx:=b11_ok.mono _ _ _ _ hs1.le hx
 have hl:=hl.mono t11_ok hs1.le
 have hfa:=t11_ok.mono _ _ _ _ hs1.le hfa
 have hfb:=t11_ok.mono _ _ _ _ hs1.le hfb
 refine cw_cond rfl (fun hc0=>?_) (fun hc0=>?_)
 ·replace hc0:¬ a.rank=b.rank:=by have h:=hc0; simp at h; omega
  refine Ri fun Z=>Qc 4 rfl (BD hs2 hb1 rfl)<|as_h rfl (h_buildM (e:=44) (size:=4) (zs:=[(.bool false),(.int .i64 0),(.int .i64 0),(.slice none 0 0)]) (cs:=[_,_,_,_]) V V V rfl hs2.sat rfl rfl rfl fun bX MX w3 hs3 hrX eX=>?_)
  have:=hs3.size
  refine Qq rfl (q_build (zs:=[(.int .i64 0),(.slice none 0 0),(.slice none 0 0),(.slice none 0 0)]) (places:=[(0,1),(1,1),(2,1),(3,1)]) (cs:=[_,_,_,_]) V V rfl rfl)<|as_h rfl (h_buildO (e:=209) (size:=4) (zs:=[(.int .i64 0),(.slice none 0 0),(.slice none 0 0),(.slice none 0 0)]) (cs:=[_,_,_,_]) V V V rfl hs3.sat rfl rfl fun bK w4 hs4 hoK eK=>?_)
  have:=hs4.size
  have hlK:=hoK.1.lt
  refine Nar rfl Z fun Z=>Qm rfl<|Qm rfl ?_
  have hx:=b11_ok.mono _ _ _ _ hs3.le hx
  have hl:=hl.mono t11_ok hs3.le
  have hT:=hT.t hs3 |>.t hs4
  refine as_h rfl (h_cons t11_ok (e:=209) (bytes:=80) V hT hoK (t11_mk (x:=x) (bs:=[]) (ks:=[]) rfl (Row.one b11_ok hrX hx) Row.none Row.none) hl rfl rfl (by have:=hln; omega) rfl O fun vk9 Mk9 w5 hT hle5 hown5 hz5 hk9=>?_)
  have hx:=b11_ok.mono _ _ _ _ hle5 hx
  have hfa:=t11_ok.mono _ _ _ _ hs3.le hfa
  have hfa:=t11_ok.mono _ _ _ _ hle5 hfa
  have hfb:=t11_ok.mono _ _ _ _ hs3.le hfb
  have hfb:=t11_ok.mono _ _ _ _ hle5 hfb
  have hb1:=hs3.le _ _ hb1
  have hb1:=hle5 _ _ hb1
  obtain ⟨ak9,ck9,rfl,_⟩:=hk9.slice
  refine Qa rfl<|Na rfl Z<|cw_ret ?_
  rw [sinsert,sinsertC,if_neg hc0,if_neg hc0]
  exact ⟨_,(res_tmp rfl (Rt rfl)),_,_,tup1,hT,hk9⟩
 ·replace hc0:a.rank=b.rank:=by have h:=hc0; simp at h; omega
  refine cw_skip<|hK2 _ _ ?_
  have hcut6:=hT.size
  refine cw_rdS (fun l6 w6=>∃ (M6:Mem mb) (bu:Nat) (ura uba uka:Option Addr) (unb unk urc ubc ukc:Nat),l6=[(1, .slice (some ⟨ga,oa,none⟩) (a::b::r).length lc),(2, .pointer (some ⟨b1,0,none⟩)),(7, .pointer (some ⟨bu,0,none⟩))]∧Step Nope M1 w1.drew M6 w6∧Own w6 M6 bu [.int .i64 ((RT.link ltB a b).rank:Nat), .slice ura 1 urc, .slice uba unb ubc, .slice uka unk ukc] 209∧w1.drew.heap.size≤bu∧T11 M6 (RT.link ltB a b) [.int .i64 ((RT.link ltB a b).rank:Nat), .slice ura 1 urc, .slice uba unb ubc, .slice uka unk ukc]) V V V rfl rfl ?_ ?_
  ·have hR:=Step.refl Nope hs2.sat
   have hs7:=Step.drew hs2.sat
   have:=hs7.size
   refine Gm 0 1 rfl<|Gq 1 3 rfl (fun _=>qi 209 4 rfl) ?_
   have hT:=hT.t hs7
   refine Gc 2 7 4 rfl (hata _ _ hT.le hT.sat)<|Gm 3 15 rfl<|Gq 4 31 rfl (fun _=>qi 209 4 rfl)<|Gc 5 63 4 rfl (hatb _ _ hT.le hT.sat) ?_
   have hR:=hR.t hs7
   refine at_two (i:=6) (j:=7) V ?_ ?_
   ·refine Gi 6 127 rfl (Ks [T,T]) (h_call V rfl ?_)
    refine (r11_link hs7.sat hfa hfb hoT.1 hoT.2.1 O).mono ?_
    rintro _ w8 ⟨cm,Mm,rfl,hs8,hm⟩
    obtain ⟨ura,uba,uka,unb,unk,urc,ubc,ukc,rfl⟩:=hm.shape
    have:=hs8.size
    refine ⟨trivial,?_⟩
    have hT:=hT.t hs8
    have hqau:=hT.size
    refine Gh 7 255 rfl rfl (h_allocO (z:=(.agg #[(.int .i64 0),(.slice none 0 0),(.slice none 0 0),(.slice none 0 0)])) hs8.sat V rfl fun bu w9 hs9 hou eu=>?_)
    have:=hs9.size
    have hlu:=hou.1.lt
    refine ⟨trivial,?_⟩
    refine G0 8 511 rfl rfl (h_store hs9.sat hou rfl rfl rfl V rfl rfl rfl fun w10 hs10 hn10=>?_)
    clear hou; have hou:=hn10; clear hn10
    have:=hs10.size
    refine ⟨trivial,?_⟩
    refine Dd V ?_
    have hR:=hR.t hs8 |>.t hs9 |>.o hs10
    exact ⟨_,(.cons rfl (.cons rfl (.cons rfl (.nil _)))),_,_,_,_,_,_,_,_,_,_,rfl,hR,hou,by omega,hm⟩
   ·have hqau:=hT.size
    refine Gi 7 191 rfl (Ks [F,F]) (h_allocO (z:=(.agg #[(.int .i64 0),(.slice none 0 0),(.slice none 0 0),(.slice none 0 0)])) hs7.sat V rfl fun bu w11 hs11 hou eu=>?_)
    have:=hs11.size
    have hlu:=hou.1.lt
    have hT:=hT.t hs11
    have hR:=hR.t hs11
    refine ⟨(by repeat' first | exact trivial | exact (hata _ _ hT.le hT.sat) | exact (hatb _ _ hT.le hT.sat) | refine And.intro ?_ ?_),?_⟩
    refine Gh 6 255 rfl (Ks [T,T]) (h_call V rfl ?_)
    refine (r11_link hs11.sat hfa hfb hoT.1 hoT.2.1 O).mono ?_
    rintro _ w12 ⟨cm,Mm,rfl,hs12,hm⟩
    obtain ⟨ura,uba,uka,unb,unk,urc,ubc,ukc,rfl⟩:=hm.shape
    have:=hs12.size
    refine ⟨trivial,?_⟩
    have hou:=hou.t hs12
    refine G0 8 511 rfl rfl (h_store hs12.sat hou rfl rfl rfl V rfl rfl rfl fun w13 hs13 hn13=>?_)
    clear hou; have hou:=hn13; clear hn13
    have:=hs13.size
    refine ⟨trivial,?_⟩
    refine Dd V ?_
    have hR:=hR.t hs12 |>.o hs13
    exact ⟨_,(.cons rfl (.cons rfl (.cons rfl (.nil _)))),_,_,_,_,_,_,_,_,_,_,rfl,hR,hou,by omega,hm⟩
  rintro l6 w6 ⟨M6,bu,ura,uba,uka,unb,unk,urc,ubc,ukc,rfl,hs6,hou,hw6,hm⟩
  have:=hs6.size
  have hlu:=hou.1.lt
  obtain ⟨hR,hB,hKk⟩:=hm.open
  have hlk:=okT_link hoT.1 hoT.2.1
  have hlz:=RT.link_size ltB a b
  have hlb:=beside_le (RT.link ltB a b)
  have hlk2:=RT.sizes_length (RT.link ltB a b).kids
  obtain ⟨gru,oru,rcsu,eru_,_,hru,hatru⟩:=hR.get b11_ok (i:=0) rfl
  subst eru_
  obtain ⟨pau,pnu,pcu,rfl⟩:=hru.full (okT_root hlk)
  refine Ri fun Z=>?_
  have hb1:=hs6.le _ _ hb1
  refine Qc 4 rfl (BD hs6 hb1 rfl) ?_
  have hT:=hT.t hs6
  have:=hT.size
  refine Al (.agg #[(.bool false),(.int .i64 0),(.int .i64 0),(.slice none 0 0)]) hs6.sat rfl fun bro w14 hs14 horo ero=>?_
  have:=hs14.size
  have:=horo.1.lt
  refine St hs14.sat horo rfl fun w15 hs15 horo=>?_
  have:=hs15.size
  refine Nr Z fun Z=>Qf 1 rfl ?_
  have hou:=hou.t hs14 |>.u hs15
  refine Q1 rfl (OC hou rfl)<|Qq rfl (qi 44 4 rfl) ?_
  have hT:=hT.t hs14 |>.o hs15
  refine Qc 4 rfl (hatru _ _ (fun _ _ h=>h) hT.sat) ?_
  have:=hT.size
  refine Al (.agg #[(.bool false),(.int .i64 0),(.int .i64 0),(.slice none 0 0)]) hs15.sat rfl fun bot w16 hs16 hoot eot=>?_
  have:=hs16.size
  have:=hoot.1.lt
  refine St hs16.sat hoot rfl fun w17 hs17 hoot=>?_
  have:=hs17.size
  refine Nx Z<|Rv fun Z=>?_
  have hs18:=Step.drew hs17.sat
  have:=hs18.size
  refine Gf 0 1 1 rfl ?_
  have hou:=hou.t hs16 |>.u hs17 |>.t hs18
  refine G1 1 3 rfl (OC hou rfl)<|Gq 2 7 rfl (fun _=>qi 44 4 rfl)<|Gf 3 15 1 rfl ?_
  have hT:=hT.t hs16 |>.o hs17 |>.t hs18
  refine Gc 4 31 2 rfl (cells_in (j:=1) (k:=2) (hatru _ _ (fun _ _ h=>h) hT.sat) rfl rfl)<|Gf 5 63 1 rfl<|Gc 6 127 2 rfl (BD hs18 hb1 rfl)<|Gh 7 255 rfl (Ks [T,T,F]) (h_call V rfl ?_)
  refine (ref_less (a:=(RT.link ltB a b).root.key) (b:=x.key) hs18.sat).mono ?_
  rintro _ w19 ⟨rfl,hs19⟩
  have:=hs19.size
  have hx:=b11_ok.mono _ _ _ _ hs6.le hx
  have hl:=hl.mono t11_ok hs6.le
  have hfa:=t11_ok.mono _ _ _ _ hs6.le hfa
  have hfb:=t11_ok.mono _ _ _ _ hs6.le hfb
  have horo:=horo.t hs16 |>.u hs17 |>.t hs18 |>.t hs19
  have hoot:=hoot.t hs18 |>.t hs19
  have hou:=hou.t hs19
  have hT:=hT.t hs19
  refine ⟨(by repeat' first | exact trivial | exact OC hou rfl | refine And.intro ?_ ?_),?_⟩
  refine Ga 8 511 rfl<|Dx Z<|cw_seq fun _ hK10=>Ri fun Z=>Qm rfl<|Nx Z<|cw_cond rfl (fun hc1=>?_) (fun hc1=>?_)
  ·skip
   refine Ri fun Z=>Qf 1 rfl<|Q1 rfl (OC hou rfl)<|Qq rfl (qi 44 4 rfl)<|Qc 4 rfl (hatru _ _ (fun _ _ h=>h) hT.sat)<|St hs19.sat horo rfl fun w20 hs20 horo=>?_
   have:=hs20.size
   refine Nx Z<|cw_region fun _ Z=>Qc 4 rfl (BD hs20 hb1 rfl) ?_
   have hoot:=hoot.u hs20
   refine St hs20.sat hoot rfl fun w21 hs21 hoot=>?_
   have:=hs21.size
   refine as_nil (Z _ _ ?_)
   refine hK10 _ _<|Ri fun Z=>Qc 4 rfl (OD hoot rfl)<|as_h rfl (h_buildO (e:=44) (size:=4) (zs:=[(.bool false),(.int .i64 0),(.int .i64 0),(.slice none 0 0)]) (cs:=[_,_,_,_]) V V V rfl hs21.sat rfl rfl fun bB w22 hs22 hoB eB=>?_)
   have:=hs22.size
   have hlB:=hoB.1.lt
   refine Nar rfl Z fun Z=>Qm rfl<|Qf 2 rfl ?_
   have hou:=hou.u hs20 |>.u hs21 |>.t hs22
   refine Q1 rfl (OC hou rfl) ?_
   have hT:=hT.o hs20 |>.o hs21 |>.t hs22
   refine as_h rfl (h_cons b11_ok (e:=44) (bytes:=48) V hT hoB hx hB rfl rfl (by have:=hln; omega) rfl O fun vk8 Mk8 w23 hT hle23 hown23 hz23 hk8=>?_)
   have hx:=b11_ok.mono _ _ _ _ hle23 hx
   have hfa:=t11_ok.mono _ _ _ _ hle23 hfa
   have hfb:=t11_ok.mono _ _ _ _ hle23 hfb
   have hb1:=hle23 _ _ hb1
   have hou:=hown23 _ _ _ O hou
   have hm:=t11_ok.mono _ _ _ _ hle23 hm
   have hru:=b11_ok.mono _ _ _ _ hle23 hru
   have horo:=horo.u hs21 |>.t hs22
   have horo:=hown23 _ _ _ O horo
   have hoot:=hoot.t hs22
   have hoot:=hown23 _ _ _ O hoot
   obtain ⟨ak8,ck8,rfl,_⟩:=hk8.slice
   refine Nar rfl Z fun Z=>Qf 0 rfl<|Q1 rfl (OC hou rfl)<|Qc 4 rfl (OD horo rfl)<|as_h rfl (h_buildM (e:=44) (size:=4) (zs:=[(.bool false),(.int .i64 0),(.int .i64 0),(.slice none 0 0)]) (cs:=[_,_,_,_]) V V V rfl hT.sat rfl rfl rfl fun bY MY w24 hs24 hrY eY=>?_)
   have:=hs24.size
   refine Qm rfl<|Qf 3 rfl ?_
   have hou:=hou.t hs24
   refine Q1 rfl (OC hou rfl)<|Qq rfl (q_build (zs:=[(.int .i64 0),(.slice none 0 0),(.slice none 0 0),(.slice none 0 0)]) (places:=[(0,1),(1,1),(2,1),(3,1)]) (cs:=[_,_,_,_]) V V rfl rfl)<|as_h rfl (h_buildO (e:=209) (size:=4) (zs:=[(.int .i64 0),(.slice none 0 0),(.slice none 0 0),(.slice none 0 0)]) (cs:=[_,_,_,_]) V V V rfl hs24.sat rfl rfl fun bK w25 hs25 hoK eK=>?_)
   have:=hs25.size
   have hlK:=hoK.1.lt
   refine Nar rfl Z fun Z=>Qm rfl<|Qm rfl<|Qq rfl (q_slice (e:=209) (size:=4) (k':= .i64) V V rfl rfl rfl O O O) ?_
   have hl:=hl.mono t11_ok hle23 |>.mono t11_ok hs24.le
   have hKk:=hKk.mono t11_ok hle23 |>.mono t11_ok hs24.le
   have hru:=b11_ok.mono _ _ _ _ hs24.le hru
   have hk8:=hk8.mono b11_ok hs24.le
   have hT:=hT.t hs24 |>.t hs25
   refine as_h rfl (h_cons t11_ok (e:=209) (bytes:=80) V hT hoK (t11_mk (x:=(RT.link ltB a b).root) (bs:=_) (ks:=(RT.link ltB a b).kids) rfl (Row.one b11_ok hrY hru) hk8 hKk) ((hl.sub 2 ((a::b::r).length:Nat) O O O).cast (show _=r by rw [Int.toNat_natCast]; exact List.take_of_length_le (by simp))) rfl rfl (by have:=hln; omega) rfl O fun vk9 Mk9 w26 hT hle26 hown26 hz26 hk9=>?_)
   have hx:=b11_ok.mono _ _ _ _ hs24.le hx
   have hx:=b11_ok.mono _ _ _ _ hle26 hx
   have hfa:=t11_ok.mono _ _ _ _ hs24.le hfa
   have hfa:=t11_ok.mono _ _ _ _ hle26 hfa
   have hfb:=t11_ok.mono _ _ _ _ hs24.le hfb
   have hfb:=t11_ok.mono _ _ _ _ hle26 hfb
   have hb1:=hs24.le _ _ hb1
   have hb1:=hle26 _ _ hb1
   have hou:=hou.t hs25
   have hou:=hown26 _ _ _ O hou
   have hm:=t11_ok.mono _ _ _ _ hs24.le hm
   have hm:=t11_ok.mono _ _ _ _ hle26 hm
   have hru:=b11_ok.mono _ _ _ _ hle26 hru
   have horo:=horo.t hs24 |>.t hs25
   have horo:=hown26 _ _ _ O horo
   have hoot:=hoot.t hs24 |>.t hs25
   have hoot:=hown26 _ _ _ O hoot
   obtain ⟨ak9,ck9,rfl,_⟩:=hk9.slice
   refine Qa rfl<|Na rfl Z<|cw_ret ?_
   rw [sinsert,sinsertC,if_pos hc0,if_pos hc0,skew_eq,if_pos (show ltB (RT.link ltB a b).root x=true from hc1)]
   exact ⟨_,(res_tmp rfl (Rt rfl)),_,_,tup4,hT,hk9⟩
  ·skip
   refine cw_skip<|hK10 _ _<|Ri fun Z=>Qc 4 rfl (OD hoot rfl)<|as_h rfl (h_buildO (e:=44) (size:=4) (zs:=[(.bool false),(.int .i64 0),(.int .i64 0),(.slice none 0 0)]) (cs:=[_,_,_,_]) V V V rfl hs19.sat rfl rfl fun bB w27 hs27 hoB eB=>?_)
   have:=hs27.size
   have hlB:=hoB.1.lt
   refine Nar rfl Z fun Z=>Qm rfl<|Qf 2 rfl ?_
   have hou:=hou.t hs27
   refine Q1 rfl (OC hou rfl) ?_
   have hT:=hT.t hs27
   refine as_h rfl (h_cons b11_ok (e:=44) (bytes:=48) V hT hoB hru hB rfl rfl (by have:=hln; omega) rfl O fun vk8 Mk8 w28 hT hle28 hown28 hz28 hk8=>?_)
   have hx:=b11_ok.mono _ _ _ _ hle28 hx
   have hfa:=t11_ok.mono _ _ _ _ hle28 hfa
   have hfb:=t11_ok.mono _ _ _ _ hle28 hfb
   have hb1:=hle28 _ _ hb1
   have hou:=hown28 _ _ _ O hou
   have hm:=t11_ok.mono _ _ _ _ hle28 hm
   have hru:=b11_ok.mono _ _ _ _ hle28 hru
   have horo:=horo.t hs27
   have horo:=hown28 _ _ _ O horo
   have hoot:=hoot.t hs27
   have hoot:=hown28 _ _ _ O hoot
   obtain ⟨ak8,ck8,rfl,_⟩:=hk8.slice
   refine Nar rfl Z fun Z=>Qf 0 rfl<|Q1 rfl (OC hou rfl)<|Qc 4 rfl (OD horo rfl)<|as_h rfl (h_buildM (e:=44) (size:=4) (zs:=[(.bool false),(.int .i64 0),(.int .i64 0),(.slice none 0 0)]) (cs:=[_,_,_,_]) V V V rfl hT.sat rfl rfl rfl fun bY MY w29 hs29 hrY eY=>?_)
   have:=hs29.size
   refine Qm rfl<|Qf 3 rfl ?_
   have hou:=hou.t hs29
   refine Q1 rfl (OC hou rfl)<|Qq rfl (q_build (zs:=[(.int .i64 0),(.slice none 0 0),(.slice none 0 0),(.slice none 0 0)]) (places:=[(0,1),(1,1),(2,1),(3,1)]) (cs:=[_,_,_,_]) V V rfl rfl)<|as_h rfl (h_buildO (e:=209) (size:=4) (zs:=[(.int .i64 0),(.slice none 0 0),(.slice none 0 0),(.slice none 0 0)]) (cs:=[_,_,_,_]) V V V rfl hs29.sat rfl rfl fun bK w30 hs30 hoK eK=>?_)
   have:=hs30.size
   have hlK:=hoK.1.lt
   refine Nar rfl Z fun Z=>Qm rfl<|Qm rfl<|Qq rfl (q_slice (e:=209) (size:=4) (k':= .i64) V V rfl rfl rfl O O O) ?_
   have hl:=hl.mono t11_ok hle28 |>.mono t11_ok hs29.le
   have hKk:=hKk.mono t11_ok hle28 |>.mono t11_ok hs29.le
   have hx:=b11_ok.mono _ _ _ _ hs29.le hx
   have hk8:=hk8.mono b11_ok hs29.le
   have hT:=hT.t hs29 |>.t hs30
   refine as_h rfl (h_cons t11_ok (e:=209) (bytes:=80) V hT hoK (t11_mk (x:=x) (bs:=_) (ks:=(RT.link ltB a b).kids) rfl (Row.one b11_ok hrY hx) hk8 hKk) ((hl.sub 2 ((a::b::r).length:Nat) O O O).cast (show _=r by rw [Int.toNat_natCast]; exact List.take_of_length_le (by simp))) rfl rfl (by have:=hln; omega) rfl O fun vk9 Mk9 w31 hT hle31 hown31 hz31 hk9=>?_)
   have hx:=b11_ok.mono _ _ _ _ hle31 hx
   have hfa:=t11_ok.mono _ _ _ _ hs29.le hfa
   have hfa:=t11_ok.mono _ _ _ _ hle31 hfa
   have hfb:=t11_ok.mono _ _ _ _ hs29.le hfb
   have hfb:=t11_ok.mono _ _ _ _ hle31 hfb
   have hb1:=hs29.le _ _ hb1
   have hb1:=hle31 _ _ hb1
   have hou:=hou.t hs30
   have hou:=hown31 _ _ _ O hou
   have hm:=t11_ok.mono _ _ _ _ hs29.le hm
   have hm:=t11_ok.mono _ _ _ _ hle31 hm
   have hru:=b11_ok.mono _ _ _ _ hs29.le hru
   have hru:=b11_ok.mono _ _ _ _ hle31 hru
   have horo:=horo.t hs29 |>.t hs30
   have horo:=hown31 _ _ _ O horo
   have hoot:=hoot.t hs29 |>.t hs30
   have hoot:=hown31 _ _ _ O hoot
   obtain ⟨ak9,ck9,rfl,_⟩:=hk9.slice
   refine Qa rfl<|Na rfl Z<|cw_ret ?_
   rw [sinsert,sinsertC,if_pos hc0,if_pos hc0,skew_eq,if_neg (by rw [show ltB (RT.link ltB a b).root x=false from hc1]; decide)]
   exact ⟨_,(res_tmp rfl (Rt rfl)),_,_,tup4,hT,hk9⟩
theorem r11_ins {x:Bt} {xc:List Value} {ts:List (RT Bt)} {lv:Value} (hs:Sat M w) (hx:B11 M x xc) (hxn:x≠ .nil) (hl:Row T11 4 M ts lv) (hoT:Bt.okQ ts) (hz:RT.sizes ts<1000000000):
  Dz 88 #[.agg xc.toArray,lv] w (fun v w'=>∃ v' M',v = .tuple #[v',wv (sinsertC ts)]∧Step Nope M w M' w'∧Row T11 4 M' (sinsert ltB x ts) v'):=by
 match ts with
 | []=>exact r11_ins_n hs hx hxn hl (Nat.zero_le _)
 | [_]=>exact r11_ins_n hs hx hxn hl (Nat.le_refl _)
 | _::_::_=>exact r11_ins_c hs hx hxn hl hoT hz
end Go.Proofs.YtnnldppehojffaaGreat
/- The reference of heaps whose others are heaps, part 2. -/
namespace Go.Proofs.YtnnldppehojffaaGreat
open Go Go.Eng
variable {mb:Option Nat} {w:World} {M:Mem mb}
theorem r11_put_n {t:RT Bt} {tc:List Value} {lv:Value} (hs:Sat M w) (h:T11 M t tc) (hl:Row T11 4 M [] lv):
  Dz 111 #[.agg tc.toArray,lv] w (fun v w'=>∃ v' M',v = .tuple #[v',wv (0)]∧Step Nope M w M' w'∧Row T11 4 M' [t] v'):=by
 have hT:=hs.r
 obtain ⟨tra,tba,tka,tnb,tnk,trc,tbc,tkc,rfl⟩:=h.shape
 obtain ⟨la,lc,rfl,_⟩:=hl.slice
 have hz0:([]:List (RT Bt)).length=0:=rfl
 refine Fe Tryz.func111 [.tmp 4, .tmp 5] rfl<|Ri fun Z=>Bm hs rfl fun b1 M1 w1 hs1 hb1 e1=>?_
 have:=hs1.size
 refine Qa rfl<|Na rfl Z<|cw_seq fun _ hK2=>Rv fun Z=>?_
 have hs2:=Step.drew hs1.sat
 have:=hs2.size
 refine Gm 0 1 rfl<|Gq 1 3 rfl (fun _=>ql rfl)<|Gq 2 7 rfl (fun _=>(q_eqT rfl rfl (by simp)))<|Gm 3 15 rfl<|Dgs 4 31 rfl V rfl rfl<|Dgs 5 63 rfl V rfl rfl<|Dgs 6 127 rfl V rfl rfl<|Dgs 7 255 rfl V rfl rfl<|Dgs 8 511 rfl V rfl rfl<|Dgs 9 1023 rfl V rfl rfl<|Dgs 10 2047 rfl V rfl rfl<|Gq 11 4095 rfl (fun _=>q_pick_t rfl rfl)<|Dx Z<|cw_true rfl<|Ri fun Z=>Qc 4 rfl (BD hs2 hb1 rfl)<|as_h rfl (h_buildO (e:=209) (size:=4) (zs:=[(.int .i64 0),(.slice none 0 0),(.slice none 0 0),(.slice none 0 0)]) (cs:=[_,_,_,_]) V V V rfl hs2.sat rfl rfl fun bK w3 hs3 hoK eK=>?_)
 have:=hs3.size
 have:=hoK.1.lt
 refine Nar rfl Z fun Z=>Qm rfl<|Qm rfl ?_
 have h:=t11_ok.mono _ _ _ _ hs1.le h
 have hl:=hl.mono t11_ok hs1.le
 have hT:=hT.t hs1 |>.t hs2 |>.t hs3
 refine as_h rfl (h_cons t11_ok (e:=209) (bytes:=80) V hT hoK h hl rfl rfl (by have:=hz0; omega) rfl O fun vk9 Mk9 w4 hT hle4 hown4 hz4 hk9=>?_)
 have h:=t11_ok.mono _ _ _ _ hle4 h
 have hb1:=hle4 _ _ hb1
 obtain ⟨ak9,ck9,rfl,_⟩:=hk9.slice
 refine Qa rfl<|Na rfl Z<|cw_ret ?_
 exact ⟨_,(res_tmp rfl (Rt rfl)),_,_,tup0,hT,hk9⟩
theorem bputB_neg {t f:RT Bt} {r:List (RT Bt)} (h:¬ t.rank<f.rank):bput ltB t (f::r)=bput ltB (RT.link ltB t f) r∧bputC ltB t (f::r)=2+bputC ltB (RT.link ltB t f) r:=by
 constructor
 ·conv=>lhs; unfold bput
  rw [if_neg h]
 ·rw [bputC,if_neg h]
theorem bputB_pos {t f:RT Bt} {r:List (RT Bt)} (h:t.rank<f.rank):bput ltB t (f::r)=t::f::r∧bputC ltB t (f::r)=0:=by
 constructor
 ·unfold bput; rw [if_pos h]
 ·rw [bputC,if_pos h]
theorem r11_put_c {w:World} {M:Mem mb} {t f:RT Bt} {r:List (RT Bt)} {tc:List Value} {lv:Value} (ih:∀ {w:World} {M:Mem mb} {t:RT Bt} {tc:List Value} {lv:Value},Sat M w→T11 M t tc→Row T11 4 M r lv→Bt.okT t→Bt.okQ r→t.size+RT.sizes r≤1000000000→Dz 111 #[.agg tc.toArray,lv] w (fun v w'=>∃ v' M',v = .tuple #[v',wv (bputC ltB t r)]∧Step Nope M w M' w'∧Row T11 4 M' (bput ltB t r) v')) (hs:Sat M w) (h:T11 M t tc) (hl:Row T11 4 M (f::r) lv) (hot:Bt.okT t) (hoq:Bt.okQ (f::r)) (hz:t.size+RT.sizes (f::r)≤1000000000):
  Dz 111 #[.agg tc.toArray,lv] w (fun v w'=>∃ v' M',v = .tuple #[v',wv (bputC ltB t (f::r))]∧Step Nope M w M' w'∧Row T11 4 M' (bput ltB t (f::r)) v'):=by
 have hT:=hs.r
 obtain ⟨tra,tba,tka,tnb,tnk,trc,tbc,tkc,rfl⟩:=h.shape
 obtain ⟨la,lc,rfl,_⟩:=hl.slice
 simp only [Bt.okQ] at hoq
 have hlz:=RT.sizes_length (f::r)
 have hlc:(f::r).length=r.length+1:=rfl
 obtain ⟨g,o,fc,rfl,_,hf,hat⟩:=hl.get t11_ok (i:=0) (t:=f) rfl
 obtain ⟨fra,fba,fka,fnb,fnk,frc,fbc,fkc,rfl⟩:=hf.shape
 refine Fe Tryz.func111 [.tmp 4, .tmp 5] rfl<|Ri fun Z=>Bm hs rfl fun b1 M1 w1 hs1 hb1 e1=>?_
 have:=hs1.size
 refine Qa rfl<|Na rfl Z<|cw_seq fun _ hK2=>Rv fun Z=>?_
 have hs2:=Step.drew hs1.sat
 have:=hs2.size
 refine Gm 0 1 rfl<|Gq 1 3 rfl (fun _=>ql rfl)<|Gq 2 7 rfl (fun _=>qEF rfl)<|Gm 3 15 rfl<|Dgq 4 31 rfl V rfl rfl (fun _=>(q_fieldAddr (off:=0) V rfl)) ?_
 have h:=t11_ok.mono _ _ _ _ hs1.le h
 refine at_gq (i:=5) (li:=lb 12 63) (cellIs _ _ _) rfl V rfl rfl rfl rfl (fun _ h=>q_load1 V rfl h) (BC hs2 hb1 rfl) V<|Dgq 6 127 rfl V rfl rfl (fun _=>q_move rfl)<|Dgq 7 255 rfl V rfl rfl (fun _=>qi 209 4 rfl)<|Dgq 8 511 rfl V rfl rfl (fun _=>(q_fieldAddr (off:=0) V rfl)) ?_
 have hT:=hT.t hs1 |>.t hs2
 refine at_gq (i:=9) (li:=lb 12 1023) (cellIs _ _ _) rfl V rfl rfl rfl rfl (fun _ h=>q_load1 V rfl h) ((hat _ _ hT.le hT.sat).2 0 _ rfl) V<|Dgq 10 2047 rfl V rfl rfl (fun _=>q_lt rfl rfl)<|Gq 11 4095 rfl (fun _=>q_pick_f rfl rfl)<|Dx Z ?_
 have hl:=hl.mono t11_ok hs1.le
 have hf:=t11_ok.mono _ _ _ _ hs1.le hf
 refine cw_cond rfl (fun hc0=>?_) (fun hc0=>?_)
 ·skip
  refine Ri fun Z=>Qc 4 rfl (BD hs2 hb1 rfl)<|as_h rfl (h_buildO (e:=209) (size:=4) (zs:=[(.int .i64 0),(.slice none 0 0),(.slice none 0 0),(.slice none 0 0)]) (cs:=[_,_,_,_]) V V V rfl hs2.sat rfl rfl fun bK w3 hs3 hoK eK=>?_)
  have:=hs3.size
  have:=hoK.1.lt
  refine Nar rfl Z fun Z=>Qm rfl<|Qm rfl ?_
  have hT:=hT.t hs3
  refine as_h rfl (h_cons t11_ok (e:=209) (bytes:=80) V hT hoK h hl rfl rfl (by have:=hlz; omega) rfl O fun vk9 Mk9 w4 hT hle4 hown4 hz4 hk9=>?_)
  have h:=t11_ok.mono _ _ _ _ hle4 h
  have hf:=t11_ok.mono _ _ _ _ hle4 hf
  have hb1:=hle4 _ _ hb1
  obtain ⟨ak9,ck9,rfl,_⟩:=hk9.slice
  refine Qa rfl<|Na rfl Z<|cw_ret ?_
  rw [(bputB_pos (by simpa using hc0)).1,(bputB_pos (by simpa using hc0)).2]
  exact ⟨_,(res_tmp rfl (Rt rfl)),_,_,tup0,hT,hk9⟩
 ·skip
  refine cw_skip<|hK2 _ _<|Rv fun Z=>?_
  have hs5:=Step.drew hs2.sat
  have:=hs5.size
  refine Gc 0 1 4 rfl (BD hs5 hb1 rfl)<|Gm 1 3 rfl<|Gq 2 7 rfl (fun _=>qi 209 4 rfl) ?_
  have hT:=hT.t hs5
  refine Gc 3 15 4 rfl (hat _ _ hT.le hT.sat)<|Gm 5 47 rfl<|Gq 6 111 rfl (fun _=>(q_slice (e:=209) (size:=4) (k':= .i64) V V rfl rfl rfl O O O))<|Gh 4 127 rfl (Ks [T,T]) (h_call V rfl ?_)
  refine (r11_link hs5.sat h hf hot hoq.1 (by simp only [RT.sizes] at hz; omega)).mono ?_
  rintro _ w6 ⟨cm,Mm,rfl,hs6,hm⟩
  obtain ⟨ura,uba,uka,unb,unk,urc,ubc,ukc,rfl⟩:=hm.shape
  have:=hs6.size
  refine ⟨trivial,?_⟩
  refine Gh 7 255 rfl rfl (h_call V rfl ?_)
  have hl:=hl.mono t11_ok hs6.le
  refine (ih hs6.sat hm (hl.tail rfl) (okT_link hot hoq.1) hoq.2 (by rw [RT.link_size]; simp only [RT.sizes] at hz; omega)).mono ?_
  rintro _ w7 ⟨pv,Mp,rfl,hs7,hp⟩
  have:=hs7.size
  refine ⟨trivial,?_⟩
  refine Gm 8 511 rfl<|Gq 9 1023 rfl (fun _=>q_extract rfl rfl)<|Gq 10 2047 rfl (fun _=>q_extract rfl rfl)<|Ga 11 4095 rfl<|Ga 12 8191 rfl<|Dx Z<|Ri fun Z=>Qm rfl<|Qm rfl<|Qq rfl (q_addwi (b:=2) rfl rfl)<|Qa rfl<|Na rfl Z<|cw_ret ?_
  rw [(bputB_neg (by simpa using hc0)).1,(bputB_neg (by simpa using hc0)).2]
  have hT:=hT.t hs6 |>.t hs7
  exact ⟨_,(res_tmp rfl (Rt rfl)),_,_,tup_eq (Nat.add_comm _ _),hT,hp⟩
theorem r11_put:∀ {ts:List (RT Bt)} {w:World} {M:Mem mb} {t:RT Bt} {tc:List Value} {lv:Value},Sat M w→T11 M t tc→Row T11 4 M ts lv→Bt.okT t→Bt.okQ ts→t.size+RT.sizes ts≤1000000000→Dz 111 #[.agg tc.toArray,lv] w (fun v w'=>∃ v' M',v = .tuple #[v',wv (bputC ltB t ts)]∧Step Nope M w M' w'∧Row T11 4 M' (bput ltB t ts) v')
 | [],_,_,_,_,_,hs,h,hl,_,_,_=>r11_put_n hs h hl
 | _::_,_,_,_,_,_,hs,h,hl,ht,hq,hz=>r11_put_c (fun hs h hl ht hq hz=>r11_put hs h hl ht hq hz) hs h hl ht hq hz
theorem r11_level_n {lv:Value} (hs:Sat M w) (hl:Row T11 4 M [] lv):
  Dz 104 #[lv] w (fun v w'=>∃ v' M',v = .tuple #[v',wv (0)]∧Step Nope M w M' w'∧Row T11 4 M' [] v'):=by
 have hT:=hs.r
 obtain ⟨la,lc,rfl,_⟩:=hl.slice
 refine Fe Tryz.func104 [.tmp 2, .tmp 3] rfl<|Ri fun Z=>Qa rfl<|Na rfl Z<|cw_seq fun _ hK2=>Ri fun Z=>Qm rfl<|Qq rfl (ql rfl)<|Qq rfl (q_eqT rfl rfl (by simp))<|Nx Z<|cw_true rfl<|Ri fun Z=>Qm rfl<|Qa rfl<|Na rfl Z<|cw_ret ?_
 exact ⟨_,(res_tmp rfl (Rt rfl)),_,_,tup0,hT,hl⟩
theorem r11_level_c {f:RT Bt} {r:List (RT Bt)} {lv:Value} (hs:Sat M w) (hl:Row T11 4 M (f::r) lv) (hoq:Bt.okQ (f::r)) (hz:RT.sizes (f::r)≤1000000000):
  Dz 104 #[lv] w (fun v w'=>∃ v' M',v = .tuple #[v',wv (bputC ltB f r)]∧Step Nope M w M' w'∧Row T11 4 M' (bput ltB f r) v'):=by
 have hT:=hs.r
 obtain ⟨la,lc,rfl,_⟩:=hl.slice
 simp only [Bt.okQ] at hoq
 have hlc:(f::r).length=r.length+1:=rfl
 obtain ⟨g,o,fc,rfl,_,hf,hat⟩:=hl.get t11_ok (i:=0) (t:=f) rfl
 obtain ⟨fra,fba,fka,fnb,fnk,frc,fbc,fkc,rfl⟩:=hf.shape
 refine Fe Tryz.func104 [.tmp 2, .tmp 3] rfl<|Ri fun Z=>Qa rfl<|Na rfl Z<|cw_seq fun _ hK2=>Ri fun Z=>Qm rfl<|Qq rfl (ql rfl)<|Qq rfl (qEF rfl)<|Nx Z<|cw_false rfl<|cw_skip<|hK2 _ _<|Rv fun Z=>?_
 have hs1:=Step.drew hs
 have:=hs1.size
 refine Gm 0 1 rfl<|Gq 1 3 rfl (fun _=>qi 209 4 rfl) ?_
 have hT:=hT.t hs1
 refine Gc 2 7 4 rfl (hat _ _ hT.le hT.sat)<|Gm 3 15 rfl<|Gq 4 31 rfl (fun _=>(q_slice (e:=209) (size:=4) (k':= .i64) V V rfl rfl rfl O O O))<|Gh 5 63 rfl (Ks [T]) (h_call V rfl ?_)
 refine (r11_put hs1.sat hf (hl.tail rfl) hoq.1 hoq.2 (by simp only [RT.sizes] at hz; omega)).mono ?_
 rintro _ w2 ⟨pv,Mp,rfl,hs2,hp⟩
 have:=hs2.size
 refine ⟨trivial,?_⟩
 refine Gq 6 127 rfl (fun _=>q_extract rfl rfl)<|Gq 7 255 rfl (fun _=>q_extract rfl rfl)<|Ga 8 511 rfl<|Ga 9 1023 rfl<|Dx Z<|cw_ret ?_
 have hT:=hT.t hs2
 exact ⟨_,(res_tmp rfl (Rt rfl)),_,_,tup_eq rfl,hT,hp⟩
theorem r11_level {ts:List (RT Bt)} {lv:Value} (hs:Sat M w) (hl:Row T11 4 M ts lv) (hoq:Bt.okQ ts) (hz:RT.sizes ts≤1000000000):
  Dz 104 #[lv] w (fun v w'=>∃ v' M',v = .tuple #[v',wv (slevelC ltB ts)]∧Step Nope M w M' w'∧Row T11 4 M' (slevel ltB ts) v'):=by
 cases ts with
 | nil=>exact r11_level_n hs hl
 | cons f r=>exact r11_level_c hs hl hoq hz
theorem r11_trees_a {b:List (RT Bt)} {va vb:Value} (hs:Sat M w) (ha:Row T11 4 M [] va) (hb:Row T11 4 M b vb):
  Dz 105 #[va,vb] w (fun v w'=>∃ v' M',v = .tuple #[v',wv (0)]∧Step Nope M w M' w'∧Row T11 4 M' b v'):=by
 have hT:=hs.r
 obtain ⟨laa,lac,rfl,_⟩:=ha.slice
 refine Fe Tryz.func105 [.tmp 4, .tmp 5] rfl<|Ri fun Z=>Qa rfl<|Na rfl Z<|cw_seq fun _ hK2=>Ri fun Z=>Qm rfl<|Qq rfl (ql rfl)<|Qq rfl (q_eqT rfl rfl (by simp))<|Nx Z<|cw_true rfl<|Ri fun Z=>Qm rfl<|Qa rfl<|Na rfl Z<|cw_ret ?_
 exact ⟨_,(res_tmp rfl (Rt rfl)),_,_,tup0,hT,hb⟩
theorem r11_trees_b {f:RT Bt} {a:List (RT Bt)} {va vb:Value} (hs:Sat M w) (ha:Row T11 4 M (f::a) va) (hb:Row T11 4 M [] vb):
  Dz 105 #[va,vb] w (fun v w'=>∃ v' M',v = .tuple #[v',wv (0)]∧Step Nope M w M' w'∧Row T11 4 M' (f::a) v'):=by
 have hT:=hs.r
 obtain ⟨laa,lac,rfl,_⟩:=ha.slice
 obtain ⟨lba,lbc,rfl,_⟩:=hb.slice
 refine Fe Tryz.func105 [.tmp 4, .tmp 5] rfl<|Ri fun Z=>Qa rfl<|Na rfl Z<|cw_seq fun _ hK2=>Ri fun Z=>Qm rfl<|Qq rfl (ql rfl)<|Qq rfl (q_eqF rfl rfl (by simp only [List.length_cons]; omega))<|Nx Z<|cw_false rfl<|cw_skip<|hK2 _ _<|cw_seq fun _ hK4=>Ri fun Z=>Qm rfl<|Qq rfl (ql rfl)<|Qq rfl (q_eqT rfl rfl (by simp))<|Nx Z<|cw_true rfl<|Ri fun Z=>Qm rfl<|Qa rfl<|Na rfl Z<|cw_ret ?_
 exact ⟨_,(res_tmp rfl (Rt rfl)),_,_,tup0,hT,ha⟩
def M11 (mb:Option Nat) (k:Nat):Prop:=∀ (w:World) (M:Mem mb) (a b:List (RT Bt)) (va vb:Value),Sat M w→Row T11 4 M a va→Row T11 4 M b vb→Bt.okQ a→Bt.okQ b→a.length+b.length<k→RT.sizes a+RT.sizes b≤1000000000→
  Dz 105 #[va,vb] w (fun v w'=>∃ v' M',v = .tuple #[v',wv (bmeldC ltB a b)]∧Step Nope M w M' w'∧Row T11 4 M' (bmeld ltB a b) v')
theorem r11_trees_c {w:World} {M:Mem mb} {f g:RT Bt} {a b:List (RT Bt)} {va vb:Value} {k:Nat} (ih:M11 mb k) (hs:Sat M w) (ha:Row T11 4 M (f::a) va) (hb:Row T11 4 M (g::b) vb) (hoa:Bt.okQ (f::a)) (hob:Bt.okQ (g::b)) (hk:(f::a).length+(g::b).length<k+1) (hz:RT.sizes (f::a)+RT.sizes (g::b)≤1000000000):
  Dz 105 #[va,vb] w (fun v w'=>∃ v' M',v = .tuple #[v',wv (bmeldC ltB (f::a) (g::b))]∧Step Nope M w M' w'∧Row T11 4 M' (bmeld ltB (f::a) (g::b)) v'):=by
 have hT:=hs.r
 simp only [Bt.okQ] at hoa hob
 obtain ⟨laa,lac,rfl,_⟩:=ha.slice
 obtain ⟨lba,lbc,rfl,_⟩:=hb.slice
 obtain ⟨ga,oa,fca,rfl,_,hfa,hata⟩:=ha.get t11_ok (i:=0) (t:=f) rfl
 obtain ⟨fara,faba,faka,fanb,fank,farc,fabc,fakc,rfl⟩:=hfa.shape
 obtain ⟨gb,ob,fcb,rfl,_,hfb,hatb⟩:=hb.get t11_ok (i:=0) (t:=g) rfl
 obtain ⟨fbra,fbba,fbka,fbnb,fbnk,fbrc,fbbc,fbkc,rfl⟩:=hfb.shape
 have hlc:(f::a).length=a.length+1:=rfl
 have hlcb:(g::b).length=b.length+1:=rfl
 have hfp:=f.size_pos
 have hgp:=g.size_pos
 have hmf:=RT.sizes_cons f a
 have hmg:=RT.sizes_cons g b
 have hl1:=RT.sizes_length a
 have hl2:=RT.sizes_length b
 refine Fe Tryz.func105 [.tmp 4, .tmp 5] rfl<|Ri fun Z=>Qa rfl<|Na rfl Z<|cw_seq fun _ hK2=>Ri fun Z=>Qm rfl<|Qq rfl (ql rfl)<|Qq rfl (qEF rfl)<|Nx Z<|cw_false rfl<|cw_skip<|hK2 _ _<|cw_seq fun _ hK4=>Ri fun Z=>Qm rfl<|Qq rfl (ql rfl)<|Qq rfl (qEF rfl)<|Nx Z<|cw_false rfl<|cw_skip<|hK4 _ _<|cw_seq fun _ hK6=>Rv fun Z=>?_
 have hs1:=Step.drew hs
 have:=hs1.size
 refine Gm 0 1 rfl<|Gq 1 3 rfl (fun _=>qi 209 4 rfl)<|Gf 2 7 0 rfl ?_
 have hT:=hT.t hs1
 refine G1 3 15 rfl ((hata _ _ hT.le hT.sat).2 0 _ rfl)<|Gm 4 31 rfl<|Gq 5 63 rfl (fun _=>qi 209 4 rfl)<|Gf 6 127 0 rfl<|G1 7 255 rfl ((hatb _ _ hT.le hT.sat).2 0 _ rfl)<|Gq 8 511 rfl (fun _=>q_lt rfl rfl)<|Dx Z<|cw_cond rfl (fun hc2=>?_) (fun hc2=>?_)
 ·replace hc2:f.rank<g.rank:=by have:=of_decide_eq_true hc2; omega
  refine Ri fun Z=>Qm rfl<|Qq rfl (q_slice (e:=209) (size:=4) (k':= .i64) V V rfl rfl rfl O O O)<|Qm rfl<|Ca rfl ?_
  have hml:=RT.sizes_length (bmeld ltB a (g::b))
  have hms:=bmeld_size ltB a (g::b)
  refine (ih _ _ a (g::b) _ _ hs1.sat (ha.tail rfl) (hb) (hoa.2) (by simp only [Bt.okQ]; exact ⟨hob.1,hob.2⟩) O O).mono ?_
  rintro _ w2 ⟨mv,Mm,rfl,hs2,hm⟩
  have:=hs2.size
  refine Qm rfl<|Qe rfl<|Qe rfl<|Qa rfl<|Nar rfl Z fun Z=>Qm rfl<|Qq rfl (qi 209 4 rfl) ?_
  have hT:=hT.t hs2
  refine Qc 4 rfl (hata _ _ hT.le hT.sat)<|as_h rfl (h_buildO (e:=209) (size:=4) (zs:=[(.int .i64 0),(.slice none 0 0),(.slice none 0 0),(.slice none 0 0)]) (cs:=[_,_,_,_]) V V V rfl hs2.sat rfl rfl fun bK w3 hs3 hoK eK=>?_)
  have:=hs3.size
  have hlK:=hoK.1.lt
  refine Nar rfl Z fun Z=>Qm rfl<|Qm rfl ?_
  have hfa:=t11_ok.mono _ _ _ _ hs2.le hfa
  have hT:=hT.t hs3
  refine as_h rfl (h_cons t11_ok (e:=209) (bytes:=80) V hT hoK hfa hm rfl rfl (by have:=hml; omega) rfl O fun vk9 Mk9 w4 hT hle4 hown4 hz4 hk9=>?_)
  have hfa:=t11_ok.mono _ _ _ _ hle4 hfa
  have hfb:=t11_ok.mono _ _ _ _ hs2.le hfb
  have hfb:=t11_ok.mono _ _ _ _ hle4 hfb
  obtain ⟨ak9,ck9,rfl,_⟩:=hk9.slice
  refine Qm rfl<|Qa rfl<|Na rfl Z<|cw_ret ?_
  exact ⟨_,(res_tmp rfl (Rt rfl)),_,_,tup_eq (by rw [bmeldC,if_pos hc2]),hT,by rw [bmeld,if_pos hc2]; exact hk9⟩
 ·replace hc2:¬ f.rank<g.rank:=by have:=of_decide_eq_false hc2; omega
  refine cw_skip<|hK6 _ _<|cw_seq fun _ hK11=>Rv fun Z=>?_
  have hs5:=Step.drew hs1.sat
  have:=hs5.size
  refine Gm 0 1 rfl<|Gq 1 3 rfl (fun _=>qi 209 4 rfl)<|Gf 2 7 0 rfl ?_
  have hT:=hT.t hs5
  refine G1 3 15 rfl ((hatb _ _ hT.le hT.sat).2 0 _ rfl)<|Gm 4 31 rfl<|Gq 5 63 rfl (fun _=>qi 209 4 rfl)<|Gf 6 127 0 rfl<|G1 7 255 rfl ((hata _ _ hT.le hT.sat).2 0 _ rfl)<|Gq 8 511 rfl (fun _=>q_lt rfl rfl)<|Dx Z<|cw_cond rfl (fun hc3=>?_) (fun hc3=>?_)
  ·replace hc3:g.rank<f.rank:=by have:=of_decide_eq_true hc3; omega
   refine Ri fun Z=>Qm rfl<|Qm rfl<|Qq rfl (q_slice (e:=209) (size:=4) (k':= .i64) V V rfl rfl rfl O O O)<|Ca rfl ?_
   have hml:=RT.sizes_length (bmeld ltB (f::a) b)
   have hms:=bmeld_size ltB (f::a) b
   refine (ih _ _ (f::a) b _ _ hs5.sat (ha) (hb.tail rfl) (by simp only [Bt.okQ]; exact ⟨hoa.1,hoa.2⟩) (hob.2) O O).mono ?_
   rintro _ w6 ⟨mv,Mm,rfl,hs6,hm⟩
   have:=hs6.size
   refine Qm rfl<|Qe rfl<|Qe rfl<|Qa rfl<|Nar rfl Z fun Z=>Qm rfl<|Qq rfl (qi 209 4 rfl) ?_
   have hT:=hT.t hs6
   refine Qc 4 rfl (hatb _ _ hT.le hT.sat)<|as_h rfl (h_buildO (e:=209) (size:=4) (zs:=[(.int .i64 0),(.slice none 0 0),(.slice none 0 0),(.slice none 0 0)]) (cs:=[_,_,_,_]) V V V rfl hs6.sat rfl rfl fun bK w7 hs7 hoK eK=>?_)
   have:=hs7.size
   have hlK:=hoK.1.lt
   refine Nar rfl Z fun Z=>Qm rfl<|Qm rfl ?_
   have hfb:=t11_ok.mono _ _ _ _ hs6.le hfb
   have hT:=hT.t hs7
   refine as_h rfl (h_cons t11_ok (e:=209) (bytes:=80) V hT hoK hfb hm rfl rfl (by have:=hml; omega) rfl O fun vk9 Mk9 w8 hT hle8 hown8 hz8 hk9=>?_)
   have hfa:=t11_ok.mono _ _ _ _ hs6.le hfa
   have hfa:=t11_ok.mono _ _ _ _ hle8 hfa
   have hfb:=t11_ok.mono _ _ _ _ hle8 hfb
   obtain ⟨ak9,ck9,rfl,_⟩:=hk9.slice
   refine Qm rfl<|Qa rfl<|Na rfl Z<|cw_ret ?_
   exact ⟨_,(res_tmp rfl (Rt rfl)),_,_,tup_eq (by rw [bmeldC,if_neg hc2,if_pos hc3]),hT,by rw [bmeld,if_neg hc2,if_pos hc3]; exact hk9⟩
  ·replace hc3:¬ g.rank<f.rank:=by have:=of_decide_eq_false hc3; omega
   refine cw_skip<|hK11 _ _<|Rv fun Z=>?_
   have hs9:=Step.drew hs5.sat
   have:=hs9.size
   refine Gm 0 1 rfl<|Gq 1 3 rfl (fun _=>(q_slice (e:=209) (size:=4) (k':= .i64) V V rfl rfl rfl O O O))<|Gm 2 7 rfl<|Gq 3 15 rfl (fun _=>(q_slice (e:=209) (size:=4) (k':= .i64) V V rfl rfl rfl O O O))<|Gh 4 31 rfl rfl (h_call V rfl ?_)
   have hml:=RT.sizes_length (bmeld ltB a b)
   have hms:=bmeld_size ltB a b
   refine (ih _ _ a b _ _ hs9.sat (ha.tail rfl) (hb.tail rfl) (hoa.2) (hob.2) O O).mono ?_
   rintro _ w10 ⟨mv,Mm,rfl,hs10,hm⟩
   have:=hs10.size
   refine ⟨trivial,?_⟩
   refine Gm 5 63 rfl<|Gq 6 127 rfl (fun _=>q_extract rfl rfl)<|Gq 7 255 rfl (fun _=>q_extract rfl rfl)<|Ga 8 511 rfl<|Ga 9 1023 rfl<|Dx Z<|Rv fun Z=>?_
   have hs11:=Step.drew hs10.sat
   have:=hs11.size
   refine Gm 0 1 rfl<|Gq 1 3 rfl (fun _=>qi 209 4 rfl) ?_
   have hT:=hT.t hs9 |>.t hs10 |>.t hs11
   refine Gc 2 7 4 rfl (hata _ _ hT.le hT.sat)<|Gm 3 15 rfl<|Gq 4 31 rfl (fun _=>qi 209 4 rfl)<|Gc 5 63 4 rfl (hatb _ _ hT.le hT.sat)<|Gm 7 191 rfl<|Gh 6 255 rfl (Ks [T,T]) (h_call V rfl ?_)
   have hfa:=t11_ok.mono _ _ _ _ hs10.le hfa
   have hfb:=t11_ok.mono _ _ _ _ hs10.le hfb
   refine (r11_link hs11.sat hfa hfb hoa.1 hob.1 O).mono ?_
   rintro _ w12 ⟨cm,Ml,rfl,hs12,hu⟩
   obtain ⟨ura,uba,uka,unb,unk,urc,ubc,ukc,rfl⟩:=hu.shape
   have:=hs12.size
   refine ⟨trivial,?_⟩
   refine Gh 8 511 rfl rfl (h_call V rfl ?_)
   have hm:=hm.mono t11_ok hs12.le
   refine (r11_put hs12.sat hu hm (okT_link hoa.1 hob.1) (okQ_meld hoa.2 hob.2) (by rw [RT.link_size]; omega)).mono ?_
   rintro _ w13 ⟨pv,Mp,rfl,hs13,hp⟩
   have:=hs13.size
   refine ⟨trivial,?_⟩
   refine Gm 9 1023 rfl<|Gq 10 2047 rfl (fun _=>q_extract rfl rfl)<|Gq 11 4095 rfl (fun _=>q_extract rfl rfl)<|Ga 12 8191 rfl<|Ga 13 16383 rfl<|Dx Z<|Ri fun Z=>Qm rfl<|Qm rfl<|Qm rfl<|Qq rfl (q_addw rfl rfl)<|Qq rfl (q_addwi (b:=2) rfl rfl)<|Qa rfl<|Na rfl Z<|cw_ret ?_
   have hT:=hT.t hs12 |>.t hs13
   exact ⟨_,(res_tmp rfl (Rt rfl)),_,_,tup_eq (by rw [bmeldC,if_neg hc2,if_neg hc3]; omega),hT,by rw [bmeld,if_neg hc2,if_neg hc3]; exact hp⟩
theorem r11_trees_all:∀ k,M11 mb k
 | 0=>fun _ _ _ _ _ _ _ _ _ _ _ h _=>absurd h (Nat.not_lt_zero _)
 | k+1=>fun w M a b va vb hs ha hb hoa hob hk hz=>by
  cases a with
  | nil=>rw [show bmeld ltB [] b=b by rw [bmeld],show bmeldC ltB [] b=0 by rw [bmeldC]]; exact r11_trees_a hs ha hb
  | cons f a=>
   cases b with
   | nil=>rw [show bmeld ltB (f::a) []=f::a by rw [bmeld],show bmeldC ltB (f::a) []=0 by rw [bmeldC]]; exact r11_trees_b hs ha hb
   | cons g b=>exact r11_trees_c (r11_trees_all k) hs ha hb hoa hob hk hz
theorem r11_trees {a b:List (RT Bt)} {va vb:Value} (hs:Sat M w) (ha:Row T11 4 M a va) (hb:Row T11 4 M b vb) (hoa:Bt.okQ a) (hob:Bt.okQ b) (hz:RT.sizes a+RT.sizes b≤1000000000):
  Dz 105 #[va,vb] w (fun v w'=>∃ v' M',v = .tuple #[v',wv (bmeldC ltB a b)]∧Step Nope M w M' w'∧Row T11 4 M' (bmeld ltB a b) v'):=r11_trees_all _ _ _ _ _ _ _ hs ha hb hoa hob (Nat.lt_succ_self _) hz
end Go.Proofs.YtnnldppehojffaaGreat
/- The reference of heaps whose others are heaps, part 3. -/
namespace Go.Proofs.YtnnldppehojffaaGreat
open Go Go.Eng
variable {mb:Option Nat} {w:World} {M:Mem mb}
theorem r11_smeld {a b:List (RT Bt)} {va vb:Value} (hs:Sat M w) (ha:Row T11 4 M a va) (hb:Row T11 4 M b vb) (hoa:Bt.okQ a) (hob:Bt.okQ b) (hz:RT.sizes a+RT.sizes b≤1000000000):
  Dz 93 #[va,vb] w (fun v w'=>∃ v' M',v = .tuple #[v',wv (smeldC ltB a b)]∧Step Nope M w M' w'∧Row T11 4 M' (smeld ltB a b) v'):=by
 have hT:=hs.r
 obtain ⟨laa,lac,rfl,_⟩:=ha.slice
 obtain ⟨lba,lbc,rfl,_⟩:=hb.slice
 refine Fe Tryz.func93 [.tmp 4, .tmp 5] rfl<|Ri fun Z=>Qa rfl<|Nar rfl Z fun Z=>Qm rfl<|Ca rfl ((r11_level hs ha hoa O).mono ?_)
 rintro _ w1 ⟨va,Mla,rfl,hs1,hla⟩
 obtain ⟨da,dca,rfl,_⟩:=hla.slice
 have:=hs1.size
 refine Qm rfl<|Qe rfl<|Qe rfl<|Qa rfl<|Nar rfl Z fun Z=>Qm rfl ?_
 have hb:=hb.mono t11_ok hs1.le
 refine Ca rfl ((r11_level hs1.sat hb hob O).mono ?_)
 rintro _ w2 ⟨vb,Mlb,rfl,hs2,hlb⟩
 obtain ⟨db,dcb,rfl,_⟩:=hlb.slice
 have:=hs2.size
 refine Qm rfl<|Qe rfl<|Qe rfl<|Qa rfl<|Nar rfl Z fun Z=>Qm rfl<|Qm rfl ?_
 have hla:=hla.mono t11_ok hs2.le
 refine Ca rfl ((r11_trees hs2.sat hla hlb (okQ_level hoa) (okQ_level hob) (by rw [slevel_size,slevel_size]; exact hz)).mono ?_)
 rintro _ w3 ⟨mv,Mm,rfl,hs3,hm⟩
 obtain ⟨ma,mc,rfl,_⟩:=hm.slice
 have:=hs3.size
 refine Qm rfl<|Qe rfl<|Qe rfl<|Qa rfl<|Nar rfl Z fun Z=>Qm rfl<|Qm rfl<|Qm rfl<|Qq rfl (q_addw rfl rfl)<|Qm rfl<|Qq rfl (q_addw rfl rfl)<|Qa rfl<|Na rfl Z<|cw_ret ?_
 have hT:=hT.t hs1 |>.t hs2 |>.t hs3
 exact ⟨_,(res_tmp rfl (Rt rfl)),_,_,tup_eq rfl,hT,hm⟩
end Go.Proofs.YtnnldppehojffaaGreat
/- The reference of heaps whose others are heaps, second part, part 1. -/
namespace Go.Proofs.YtnnldppehojffaaGreat
open Go Go.Eng
variable {mb:Option Nat} {w:World} {M:Mem mb}
theorem r11_least {ts:List (RT Bt)} {lv:Value} (hs:Sat M w) (hl:Row T11 4 M ts lv) (hoq:Bt.okQ ts) (hz:ts.length≤1000000000):
  Dz 91 #[lv] w (fun v w'=>v = .int .i64 (leastN ltB (ts.map RT.root) (ts.length-1):Nat)∧Step Nope M w M w'):=by
 have hT:=hs.r
 have hrts:∀ (j:Nat) (t:RT Bt),ts[j]? = some t→(ts.map RT.root)[j]? = some t.root:=fun j t h=>by rw [List.getElem?_map,h]; rfl
 obtain ⟨la,lc,rfl,_⟩:=hl.slice
 refine Fe Tryz.func91 [.tmp 2] rfl<|Ri fun Z=>Nar rfl Z fun Z=>Na rfl Z<|cw_seq fun _ hK3=>Ri fun Z=>Na rfl Z<|cw_block<|cw_loop (fun mm l1 w1=>∃ (i:Nat) (z:Int),mm=ts.length-i∧1≤i∧(i≤ts.length∨i=1)∧z=(leastN ltB (ts.map RT.root) (i-1):Nat)∧l1=[(0, .slice la ts.length lc),(3, .int .i64 z),(4, .int .i64 i)]∧Step Nope M w M w1) (ts.length-1) [(0, .slice la ts.length lc),(3, .int .i64 (0:Nat)),(4, .int .i64 (1:Nat))] (.cons rfl (.cons rfl (.cons rfl (.nil _)))) ?_ ?_
 ·exact ⟨1,_,by omega,by omega,by omega,rfl,rfl,hT⟩
 clear hT
 rintro mm l1 w1 ⟨i,z,rfl,hi1,hi,rfl,rfl,hT⟩
 refine cw_seq fun _ hK5=>Ri fun Z=>Qm rfl<|Qm rfl<|Qq rfl (ql rfl)<|Qq rfl (q_lt rfl rfl)<|Nx Z<|cw_cond rfl (fun hc0=>?_) (fun hc0=>?_)
 ·have hlt:i<ts.length:=by have:=of_decide_eq_true hc0; omega
  obtain ⟨k,hkk⟩:∃ k,ts[i]? = some k:=⟨ts[i],by simp⟩
  have hbl:=leastN_le ltB (ts.map RT.root) (i-1)
  obtain ⟨kb,hkb0⟩:∃ k,ts[leastN ltB (ts.map RT.root) (i-1)]? = some k:=⟨ts[leastN ltB (ts.map RT.root) (i-1)]'O,by simp⟩
  obtain ⟨g,o,kc,e_,_,hk,hatk⟩:=hl.get t11_ok hkk
  obtain ⟨g_,o_,kbc,e2_,_,hkb,hatkb⟩:=hl.get t11_ok hkb0
  subst e_
  cases e2_
  obtain ⟨kra,kba,kka,knb,knk,krc,kbc,kkc,rfl⟩:=hk.shape
  obtain ⟨kbra,kbba,kbka,kbnb,kbnk,kbrc,kbbc,kbkc,rfl⟩:=hkb.shape
  obtain ⟨hRk,_,_⟩:=hk.open
  obtain ⟨hRkb,_,_⟩:=hkb.open
  obtain ⟨grk,ork,rcsk,erk_,_,hrk,hatrk⟩:=hRk.get b11_ok (i:=0) rfl
  subst erk_
  obtain ⟨pak,pnk,pck,rfl⟩:=hrk.full (okT_root (okQ_get hoq hkk))
  obtain ⟨grkb,orkb,rcskb,erkb_,_,hrkb,hatrkb⟩:=hRkb.get b11_ok (i:=0) rfl
  subst erkb_
  obtain ⟨pakb,pnkb,pckb,rfl⟩:=hrkb.full (okT_root (okQ_get hoq hkb0))
  have hstep:=leastN_step (lt:=ltB) (i:=i-1) (hrts _ k (by rw [show i-1+1=i by omega]; exact hkk)) (hrts _ kb hkb0)
  rw [show i-1+1=i by omega] at hstep
  refine cw_skip<|hK5 _ _<|cw_seq fun _ hK7=>cw_block<|Rv fun Z=>?_
  have hs1:=Step.drew hT.sat
  have:=hs1.size
  refine Gm 0 1 rfl<|Gm 1 3 rfl<|Gq 2 7 rfl (fun _=>qi 209 4 rfl)<|Gf 3 15 1 rfl ?_
  have hT:=hT.t hs1
  refine G1 4 31 rfl ((hatk _ _ hT.le hT.sat).2 1 _ rfl)<|Gq 5 63 rfl (fun _=>qi 44 4 rfl)<|Gf 6 127 1 rfl<|Gc 7 255 2 rfl (cells_in (j:=1) (k:=2) (hatrk _ _ hT.le hT.sat) rfl rfl)<|Gm 8 511 rfl<|Gm 9 1023 rfl<|Gq 10 2047 rfl (fun _=>qi 209 4 rfl)<|Gf 11 4095 1 rfl<|G1 12 8191 rfl ((hatkb _ _ hT.le hT.sat).2 1 _ rfl)<|Gq 13 16383 rfl (fun _=>qi 44 4 rfl)<|Gf 14 32767 1 rfl<|Gc 15 65535 2 rfl (cells_in (j:=1) (k:=2) (hatrkb _ _ hT.le hT.sat) rfl rfl)<|Gh 16 131071 rfl (Ks [T,F,T,F]) (h_call V rfl ?_)
  refine (ref_less (a:=k.root.key) (b:=kb.root.key) hs1.sat).mono ?_
  rintro _ w2 ⟨rfl,hs2⟩
  have:=hs2.size
  have hT:=hT.t hs2
  refine ⟨(by repeat' first | exact trivial | exact ((hatk _ _ hT.le hT.sat).2 1 _ rfl) | exact ((hatkb _ _ hT.le hT.sat).2 1 _ rfl) | refine And.intro ?_ ?_),?_⟩
  refine Ga 17 262143 rfl<|Dx Z<|Ri fun Z=>Qm rfl<|Nx Z<|cw_cond rfl (fun hc1=>?_) (fun hc1=>?_)
  ·rw [if_pos (show ltB k.root kb.root=true from hc1)] at hstep
   refine cw_region fun _ Z=>Qm rfl<|Qa rfl<|as_nil (Z _ _ ?_)
   refine hK7 _ _<|cw_region fun _ Z=>Qm rfl<|Qq rfl (qA rfl)<|Qa rfl<|as_nil (Z _ _ ?_)
   refine ⟨_,_,?_,(.cons rfl (.cons rfl (.cons rfl (.nil _)))),i+1,_,rfl,by omega,by omega,?_,rfl,hT.forget⟩
   ·omega
   ·rw [show i+1-1=i by omega,hstep]
  ·rw [if_neg (by rw [show ltB k.root kb.root=false from hc1]; decide)] at hstep
   refine cw_skip<|hK7 _ _<|cw_region fun _ Z=>Qm rfl<|Qq rfl (qA rfl)<|Qa rfl<|as_nil (Z _ _ ?_)
   refine ⟨_,_,?_,(.cons rfl (.cons rfl (.cons rfl (.nil _)))),i+1,_,rfl,by omega,by omega,?_,rfl,hT.forget⟩
   ·omega
   ·rw [show i+1-1=i by omega,hstep]
 ·have hge:i-1=ts.length-1:=by have:=of_decide_eq_false hc0; omega
  refine cw_exit<|hK3 _ _<|Ri fun Z=>Qm rfl<|Na rfl Z<|cw_ret ?_
  exact ⟨_,Rt rfl,by rw [hge]; rfl,hT.forget⟩
theorem okL_take {bs:List Bt} (h:Bt.okL bs) (i:Nat):Bt.okL (bs.take i):=(Bt.okL_iff _).2 fun x hx=>(Bt.okL_iff _).1 h x (List.mem_of_mem_take hx)
theorem r11_spop {ts:List (RT Bt)} {x:Bt} {bs:List Bt} {ks:List (RT Bt)} {lv:Value} (hs:Sat M w) (hl:Row T11 4 M ts lv) (hoq:Bt.okQ ts) (ht:ts[leastN ltB (ts.map RT.root) (ts.length-1)]? = some (.node x bs ks)) (hz:RT.sizes ts≤1000000000):
  Dz 92 #[lv] w (fun v w'=>∃ v' M',v = .tuple #[v',wv (spopC ltB ts (.node x bs ks))]∧Step Nope M w M' w'∧Row T11 4 M' (spop ltB ts (.node x bs ks)) v'):=by
 have hT:=hs.r
 obtain ⟨la,lc,rfl,hlc⟩:=hl.slice
 obtain ⟨g,o,tc,e_,_,hk0,hat⟩:=hl.get t11_ok ht
 subst e_
 obtain ⟨ra,ba,ka,rc,bc,kc,rfl,hR,hB,hQ⟩:=t11_iff.1 hk0
 have hpos:0<ts.length:=Nat.lt_of_le_of_lt (Nat.zero_le _) (List.getElem?_eq_some_iff.1 ht).1
 have hbl:=leastN_le ltB (ts.map RT.root) (ts.length-1)
 have hszo:=sizes_out ht
 simp only [RT.size] at hszo
 have hksl:=RT.sizes_length ks
 have htsl:=RT.sizes_length ts
 have hl0:=hl
 have hB0:=hB
 have hQ0:=hQ
 have hokt:=okQ_get hoq ht
 have hokb:Bt.okL bs:=okT_beside hokt
 have hokr:Bt.okQ ks.reverse:=okQ_iff.2 fun t h=>okQ_iff.1 (okT_kids hokt) t (List.mem_reverse.1 h)
 have hoe:Bt.okQ (ts.eraseIdx (leastN ltB (ts.map RT.root) (ts.length-1))):=okQ_iff.2 fun t h=>okQ_iff.1 hoq t (List.mem_of_mem_eraseIdx h)
 refine Fe Tryz.func92 [.tmp 2, .tmp 3] rfl<|Ri fun Z=>Qa rfl<|Nar rfl Z fun Z=>Qm rfl<|Ca rfl ((r11_least hs hl hoq O).mono ?_)
 rintro _ w1 ⟨rfl,hs1⟩
 have:=hs1.size
 refine Nar rfl Z fun Z=>Na rfl Z<|cw_seq fun _ hK4=>Ri fun Z=>Qm rfl<|Qm rfl<|Qq rfl (qi 209 4 rfl)<|Qf 3 rfl ?_
 have hT:=hT.t hs1
 refine Q1 rfl ((hat _ _ hT.le hT.sat).2 3 _ rfl)<|Qq rfl (ql rfl)<|Qq rfl (qS rfl)<|Na rfl Z<|cw_block<|cw_loop (fun mm l1 wL=>∃ (j:Nat) (z:Int) (vk:Value) (ML:Mem mb),j=mm∧z=(j:Int)-1∧j≤ks.length∧l1=[(0, .slice (some ⟨g,o,none⟩) ts.length lc),(4, .int .i64 (leastN ltB (ts.map RT.root) (ts.length-1):Nat)),(5,vk),(6, .int .i64 z)]∧Step Nope M w ML wL∧w1.heap.size≤wL.heap.size∧RowB 209 T11 4 w1.heap.size wL ML ((ks.drop j).reverse) vk) (ks.length) [(0, .slice (some ⟨g,o,none⟩) ts.length lc),(4, .int .i64 (leastN ltB (ts.map RT.root) (ts.length-1):Nat)),(5, .slice none 0 0),(6, .int .i64 ((ks.length:Int)-1))] (.cons rfl (.cons rfl (.cons rfl (.cons rfl (.nil _))))) ?_ ?_
 ·exact ⟨ks.length,_,_,_,rfl,rfl,Nat.le_refl _,rfl,hT,Nat.le_refl _,by rw [List.drop_length]; exact RowB.none⟩
 have hBw:w.heap.size≤w1.heap.size:=hT.size
 clear hT hl hB hQ
 have hl:=hl0
 have hB:=hB0
 have hQ:=hQ0
 rintro mm l1 wL ⟨j,z,vk,ML,rfl,hjz,hj,rfl,hT,hwL,hkd⟩
 obtain ⟨ak,ck,rfl⟩:=hkd.slice
 refine cw_seq fun _ hK6=>Ri fun Z=>Qm rfl<|Qq rfl (q_ge rfl rfl)<|Nx Z ?_
 have hl:=hl.mono t11_ok hT.le
 have hB:=hB.mono b11_ok hT.le
 have hQ:=hQ.mono t11_ok hT.le
 refine cw_cond rfl (fun hc0=>?_) (fun hc0=>?_)
 ·have hc0:=of_decide_eq_true hc0
  obtain ⟨j,rfl⟩:∃ j',j=j'+1:=⟨j-1,by omega⟩
  obtain ⟨k,hkk0⟩:∃ k,ks[j]? = some k:=⟨ks[j]'O,by simp⟩
  obtain ⟨gk,ok,kc,e_,_,hkk,hatk⟩:=hQ0.get t11_ok hkk0
  subst e_
  have hkk:=t11_ok.mono _ _ _ _ hT.le hkk
  obtain ⟨kra,kba,kka,knb,knk,krc,kbc,kkc,rfl⟩:=hkk.shape
  have hlk:((ks.drop (j+1)).reverse).length+[k].length=ks.length-j:=by rw [List.length_reverse,List.length_drop]; simp; omega
  refine cw_skip<|hK6 _ _<|cw_seq fun _ hK8=>cw_block<|cw_region fun _ Z=>Qm rfl<|Qm rfl<|Qm rfl<|Qq rfl (qi 209 4 rfl)<|Qf 3 rfl<|Q1 rfl ((hat _ _ hT.le hT.sat).2 3 _ rfl)<|Qm rfl<|Qq rfl (qi 209 4 rfl)<|Qc 4 rfl (show cellsAre gk (ok+z.toNat*4) 4 _ _ by rw [show z.toNat=j by omega]; exact hatk _ _ hT.le hT.sat)<|as_h rfl (h_buildM (e:=209) (size:=4) (zs:=[(.int .i64 0),(.slice none 0 0),(.slice none 0 0),(.slice none 0 0)]) (cs:=[_,_,_,_]) V V V rfl hT.sat rfl rfl rfl fun bK MK w2 hs2 hrK eK=>?_)
  have:=hs2.size
  have hkd:=hkd.then t11_ok hs2
  have hkk:=t11_ok.mono _ _ _ _ hs2.le hkk
  refine as_h rfl (h_appB t11_ok (e:=209) (bytes:=80) V hs2.sat hkd (Row.one t11_ok hrK hkk) rfl rfl (by have:=hlk; omega) rfl O fun vkd2 w3 hs3 hkd2 hor3 hfl3=>?_)
  have hT:=hT.t hs2
  have hT:=hT.trans hs3 (fun k hk h=>by have:=hfl3 _ h; omega)
  obtain ⟨akd2,ckd2,rfl⟩:=hkd2.slice
  have:=hs3.size
  refine Qa rfl<|as_nil (Z _ _ ?_)
  refine hK8 _ _<|cw_region fun _ Z=>Qm rfl<|Qq rfl (qS rfl)<|Qa rfl<|as_nil (Z _ _ ?_)
  have hl:=hl.mono t11_ok hs2.le
  have hB:=hB.mono b11_ok hs2.le
  have hQ:=hQ.mono t11_ok hs2.le
  refine ⟨_,_,?_,(.cons rfl (.cons rfl (.cons rfl (.cons rfl (.nil _))))),j,_,_,_,rfl,?_,by omega,rfl,hT,by omega,hkd2.cast ?_⟩
  ·omega
  ·omega
  ·rw [← List.reverse_cons,List.drop_eq_getElem_cons (i:=j) O,show ks[j]=k from by rw [List.getElem?_eq_getElem O] at hkk0; exact Option.some.inj hkk0]
 ·have hc0:=of_decide_eq_false hc0
  obtain rfl:j=0:=by omega
  rw [List.drop_zero] at hkd
  refine cw_exit<|hK4 _ _<|Ri fun Z=>?_
  obtain ⟨Mz,hT,hleMz,hkz,hsmMz⟩:=hkd.freeze t11_ok hT O
  have hr0:RowB 209 T11 4 w1.heap.size wL Mz ([]:List (RT Bt)) (.slice none 0 0):=RowB.none
  refine Nar rfl Z fun Z=>Qm rfl<|Qm rfl<|Qm rfl<|Qq rfl (q_slice (e:=209) (size:=4) (k:= .i64) V V rfl rfl rfl O O O) ?_
  have hl:=hl.mono t11_ok hleMz
  refine as_h rfl (h_appB t11_ok (e:=209) (bytes:=80) V hT.sat hr0 ((hl.sub 0 (leastN ltB (ts.map RT.root) (ts.length-1):Nat) O O O).cast (show _=ts.take (leastN ltB (ts.map RT.root) (ts.length-1)) by simp)) rfl rfl (by simp only [List.length_nil,List.length_take]; omega) rfl O fun vr1 w4 hs4 hr1 hor4 hfl4=>?_)
  have hT:=hT.trans hs4 (fun k hk h=>by have:=hfl4 _ h; omega)
  obtain ⟨ar1,cr1,rfl⟩:=hr1.slice
  have:=hs4.size
  refine Nar rfl Z fun Z=>Qm rfl<|Qm rfl<|Qm rfl<|Qq rfl (qA rfl)<|Qq rfl (q_slice (e:=209) (size:=4) (k':= .i64) V V rfl rfl rfl O O O)<|as_h rfl (h_appB t11_ok (e:=209) (bytes:=80) V hs4.sat hr1 ((hl.sub ((leastN ltB (ts.map RT.root) (ts.length-1):Nat)+1) (ts.length:Nat) O O O).cast (show _=ts.drop (leastN ltB (ts.map RT.root) (ts.length-1)+1) by rw [show (((leastN ltB (ts.map RT.root) (ts.length-1):Nat):Int)+1).toNat=leastN ltB (ts.map RT.root) (ts.length-1)+1 by omega,Int.toNat_natCast]; exact List.take_of_length_le (by simp))) rfl rfl (by simp only [List.length_append,List.length_nil,List.length_take,List.length_drop]; omega) rfl O fun vr2 w5 hs5 hr2 hor5 hfl5=>?_)
  have hT:=hT.trans hs5 (fun k hk h=>by have:=hfl5 _ h; omega)
  obtain ⟨ar2,cr2,rfl⟩:=hr2.slice
  have:=hs5.size
  refine Nar rfl Z fun Z=>?_
  have hr2:=hr2.cast (show _=ts.eraseIdx (leastN ltB (ts.map RT.root) (ts.length-1)) by rw [List.nil_append,List.eraseIdx_eq_take_drop_succ])
  obtain ⟨My,hT,hleMy,hrz,hsmMy⟩:=hr2.freeze t11_ok hT O
  refine Qm rfl<|Ca rfl ((r11_level hT.sat hrz hoe O).mono ?_)
  rintro _ w6 ⟨vl,Mv,rfl,hs6,hlv⟩
  obtain ⟨dl,dlc,rfl,_⟩:=hlv.slice
  have:=hs6.size
  refine Qm rfl<|Qe rfl<|Qe rfl<|Qa rfl<|Nar rfl Z fun Z=>Qm rfl<|Qm rfl ?_
  have hkz:=hkz.mono t11_ok hleMy |>.mono t11_ok hs6.le
  refine Ca rfl ((r11_trees (a:=ks.reverse) (b:=(slevel ltB (ts.eraseIdx (leastN ltB (ts.map RT.root) (ts.length-1))))) hs6.sat hkz hlv hokr (okQ_level hoe) (by rw [sizes_rev,slevel_size]; omega)).mono ?_)
  rintro _ w7 ⟨mv,Mm,rfl,hs7,hm⟩
  obtain ⟨ma,mc,rfl,_⟩:=hm.slice
  have:=hs7.size
  refine Qm rfl<|Qe rfl<|Qe rfl<|Qa rfl<|Nar rfl Z fun Z=>Qm rfl<|Qq rfl (ql rfl)<|Qq rfl (qS rfl)<|Qm rfl<|Qq rfl (q_addiw (a:=ts.length-1) rfl rfl O)<|Qm rfl<|Qq rfl (q_addw rfl rfl)<|Na rfl Z<|cw_seq fun _ hK17=>Ri fun Z=>Na rfl Z<|cw_block ?_
  have hB:=hB.mono b11_ok hleMz |>.mono b11_ok hleMy |>.mono b11_ok hs6.le |>.mono b11_ok hs7.le
  have hQ:=hQ.mono t11_ok hleMz |>.mono t11_ok hleMy |>.mono t11_ok hs6.le |>.mono t11_ok hs7.le
  have hl:=hl.mono t11_ok hleMy |>.mono t11_ok hs6.le |>.mono t11_ok hs7.le
  have hrz:=hrz.mono t11_ok hs6.le |>.mono t11_ok hs7.le
  have hT:=hT.t hs6 |>.t hs7
  have hlv:=hlv.mono t11_ok hs7.le
  refine cw_loop (fun mm l1 wL=>∃ (i c:Nat) (va:Option Addr) (vc:Nat) (ML:Mem mb),mm=bs.length-i∧i≤bs.length∧c=(ts.length-1+slevelC ltB (ts.eraseIdx (leastN ltB (ts.map RT.root) (ts.length-1)))+bmeldC ltB ks.reverse (slevel ltB (ts.eraseIdx (leastN ltB (ts.map RT.root) (ts.length-1)))))+sinsertsC ltB (bs.take i) (bmeld ltB ks.reverse (slevel ltB (ts.eraseIdx (leastN ltB (ts.map RT.root) (ts.length-1)))))∧l1=[(0, .slice (some ⟨g,o,none⟩) ts.length lc),(4, .int .i64 (leastN ltB (ts.map RT.root) (ts.length-1):Nat)),(10, .slice va (((bs.take i).foldl (fun h x=>sinsert ltB x h) (bmeld ltB ks.reverse (slevel ltB (ts.eraseIdx (leastN ltB (ts.map RT.root) (ts.length-1))))))).length vc),(12,wv c),(13, .int .i64 (i:Nat))]∧Step Nope M w ML wL∧Row T11 4 ML ((bs.take i).foldl (fun h x=>sinsert ltB x h) (bmeld ltB ks.reverse (slevel ltB (ts.eraseIdx (leastN ltB (ts.map RT.root) (ts.length-1)))))) (.slice va (((bs.take i).foldl (fun h x=>sinsert ltB x h) (bmeld ltB ks.reverse (slevel ltB (ts.eraseIdx (leastN ltB (ts.map RT.root) (ts.length-1))))))).length vc)) (bs.length) [(0, .slice (some ⟨g,o,none⟩) ts.length lc),(4, .int .i64 (leastN ltB (ts.map RT.root) (ts.length-1):Nat)),(10, .slice ma ((bmeld ltB ks.reverse (slevel ltB (ts.eraseIdx (leastN ltB (ts.map RT.root) (ts.length-1)))))).length mc),(12,wv (ts.length-1+slevelC ltB (ts.eraseIdx (leastN ltB (ts.map RT.root) (ts.length-1)))+bmeldC ltB ks.reverse (slevel ltB (ts.eraseIdx (leastN ltB (ts.map RT.root) (ts.length-1)))))),(13, .int .i64 ((0:Nat):Int))] (.cons rfl (.cons rfl (.cons rfl (.cons rfl (.cons rfl (.nil _)))))) ?_ ?_
  ·exact ⟨0,_,_,_,_,rfl,Nat.zero_le _,rfl,rfl,hT,hm⟩
  clear hT hl hB hQ hm hlv hrz
  have hl:=hl0
  rintro mm l1 wL ⟨i,c,va,vc,ML,rfl,hi,hcc,rfl,hT,hm⟩
  refine cw_seq fun _ hK19=>Ri fun Z=>Qm rfl<|Qm rfl<|Qm rfl<|Qq rfl (qi 209 4 rfl)<|Qf 2 rfl<|Q1 rfl ((hat _ _ hT.le hT.sat).2 2 _ rfl)<|Qq rfl (ql rfl)<|Qq rfl (q_lt rfl rfl)<|Nx Z<|cw_cond rfl (fun hc1=>?_) (fun hc1=>?_)
  ·have hlt:i<bs.length:=by have:=of_decide_eq_true hc1; omega
   obtain ⟨y,hy0⟩:∃ y,bs[i]? = some y:=⟨bs[i],by simp⟩
   obtain ⟨gb,ob,yc,e_,_,hy,haty⟩:=hB0.get b11_ok hy0
   subst e_
   have hy:=b11_ok.mono _ _ _ _ hT.le hy
   have hyn:=((Bt.okL_iff _).1 hokb y (List.mem_of_getElem? hy0)).1
   obtain ⟨ya,yn,ycc,rfl⟩:=hy.full hyn
   have htk0:bs.take (i+1)=bs.take i++[y]:=by rw [List.take_add_one,hy0]; rfl
   have htk:((bs.take (i+1)).foldl (fun h x=>sinsert ltB x h) (bmeld ltB ks.reverse (slevel ltB (ts.eraseIdx (leastN ltB (ts.map RT.root) (ts.length-1))))))=sinsert ltB y ((bs.take i).foldl (fun h x=>sinsert ltB x h) (bmeld ltB ks.reverse (slevel ltB (ts.eraseIdx (leastN ltB (ts.map RT.root) (ts.length-1)))))):=by rw [htk0,List.foldl_append]; rfl
   have htc:sinsertsC ltB (bs.take (i+1)) (bmeld ltB ks.reverse (slevel ltB (ts.eraseIdx (leastN ltB (ts.map RT.root) (ts.length-1)))))=sinsertsC ltB (bs.take i) (bmeld ltB ks.reverse (slevel ltB (ts.eraseIdx (leastN ltB (ts.map RT.root) (ts.length-1)))))+sinsertC ((bs.take i).foldl (fun h x=>sinsert ltB x h) (bmeld ltB ks.reverse (slevel ltB (ts.eraseIdx (leastN ltB (ts.map RT.root) (ts.length-1)))))):=by rw [htk0,sinsertsC_snoc]
   have hsz:=sins_size (lt:=ltB) (bs.take i) (bmeld ltB ks.reverse (slevel ltB (ts.eraseIdx (leastN ltB (ts.map RT.root) (ts.length-1)))))
   rw [bmeld_size,sizes_rev,slevel_size,List.length_take] at hsz
   refine cw_skip<|hK19 _ _<|cw_seq fun _ hK21=>cw_block<|Ri fun Z=>Qm rfl<|Qm rfl<|Qq rfl (qi 209 4 rfl)<|Qf 2 rfl<|Q1 rfl ((hat _ _ hT.le hT.sat).2 2 _ rfl)<|Qm rfl<|Qq rfl (qi 44 4 rfl)<|Qc 4 rfl (haty _ _ hT.le hT.sat)<|Qm rfl<|Ca rfl ((r11_ins (x:=y) hT.sat hy hyn hm (okQ_sins (okL_take hokb i) (okQ_meld hokr (okQ_level hoe))) O).mono ?_)
   rintro _ w8 ⟨mv,Mi,rfl,hs8,hn⟩
   obtain ⟨na,nc,rfl,_⟩:=hn.slice
   have:=hs8.size
   refine Qm rfl<|Qe rfl<|Qe rfl<|Qa rfl<|Nar rfl Z fun Z=>Qm rfl<|Na rfl Z<|cw_region fun _ Z=>Qm rfl<|Qm rfl<|Qq rfl (q_addw rfl rfl)<|Qa rfl<|as_nil (Z _ _ ?_)
   refine hK21 _ _<|cw_region fun _ Z=>Qm rfl<|Qq rfl (qA rfl)<|Qa rfl<|as_nil (Z _ _ ?_)
   have hm:=hm.mono t11_ok hs8.le
   have hT:=hT.t hs8
   refine ⟨_,_,?_,(.cons rfl (.cons rfl (.cons rfl (.cons rfl (.cons rfl (.nil _)))))),i+1,_,na,nc,_,rfl,by omega,?_,by rw [htk],hT,by rw [htk]; exact hn⟩
   ·omega
   ·rw [hcc,htc]; omega
  ·have hge:i=bs.length:=by have:=of_decide_eq_false hc1; omega
   subst hge
   rw [List.take_length] at hm hcc
   refine cw_exit<|hK17 _ _<|Ri fun Z=>Qm rfl<|Qm rfl<|Qa rfl<|Na rfl Z<|cw_ret ?_
   exact ⟨_,(res_tmp rfl (Rt rfl)),_,_,by rw [hcc,spopC]; simp only [List.take_length]; rfl,hT,hm⟩
end Go.Proofs.YtnnldppehojffaaGreat
