/- Steps of the proof that the law of this claim answers true, part 5. No conditions. -/
import Derived.Test.YtnnldppehojffaaGreatCDrainTellsD
/- The reference of heaps whose others are heaps, third part, part 1. -/
namespace Go.Proofs.YtnnldppehojffaaGreat
open Go Go.Eng
variable {mb:Option Nat} {w:World} {M:Mem mb}
end Go.Proofs.YtnnldppehojffaaGreat
namespace Go.Eng
open Go
variable {mb:Option Nat} {w:World} {M:Mem mb}
theorem elsL_take {l:List Bt} {i:Nat} {h:Bt} (hi:l[i]? = some h):Bt.elsL (l.take (i+1))=Bt.elsL (l.take i)++h.els:=by
 rw [List.take_add_one,hi,Bt.elsL_append]
 simp [Bt.elsL]
theorem elsL_take_le (l:List Bt) (i:Nat):(Bt.elsL (l.take i)).length≤(Bt.elsL l).length:=by
 have h:Bt.elsL l=Bt.elsL (l.take i)++Bt.elsL (l.drop i):=by rw [← Bt.elsL_append,List.take_append_drop]
 rw [h,List.length_append]
 omega
theorem alls_take {α:Type} {l:List (RT α)} {i:Nat} {t:RT α} (hi:l[i]? = some t):RT.alls (l.take (i+1))=RT.alls (l.take i)++RT.all t:=by
 have h:∀ (a b:List (RT α)),RT.alls (a++b)=RT.alls a++RT.alls b:=by
  intro a b
  induction a with
  | nil=>rfl
  | cons k a ih=>rw [List.cons_append,RT.alls,RT.alls,ih,List.append_assoc]
 rw [List.take_add_one,hi,h]
 simp [RT.alls]
theorem bt_nn {x:El} {ts:List (RT Bt)}:Bt.node x ts≠ .nil:=fun h=>by cases h
end Go.Eng
namespace Go.Proofs.YtnnldppehojffaaGreat
open Go Go.Eng
variable {mb:Option Nat} {w:World} {M:Mem mb}
theorem r11_meld_a {b:Bt} {ca cb:List Value} (hs:Sat M w) (ha:B11 M .nil ca) (hb:B11 M b cb):
  Dz 52 #[.agg ca.toArray, .agg cb.toArray] w (fun v w'=>∃ cv M',v = .tuple #[.agg cv.toArray,wv (0)]∧Step Nope M w M' w'∧B11 M' b cv):=by
 have hT:=hs.r
 obtain ⟨x0,y0,a0,c0,rfl⟩:=b11_nil.1 ha
 obtain ⟨_,_,_,_,_,rfl,_⟩:=hb.shape
 refine Fe Tryz.func52 [.cell 4 44, .tmp 5] rfl<|Ri fun Z=>Bm hs rfl fun b1 M1 w1 hs1 hb1 e1=>?_
 have:=hs1.size
 refine Bm hs1.sat rfl fun b2 M2 w2 hs2 hb2 e2=>?_
 have:=hs2.size
 have hT:=hT.t hs1 |>.t hs2
 have:=hT.size
 refine Al (.agg #[(.bool false),(.int .i64 0),(.int .i64 0),(.slice none 0 0)]) hs2.sat rfl fun br w3 hs3 hor er=>?_
 have:=hs3.size
 have:=hor.1.lt
 refine Na rfl Z<|cw_seq fun _ hK2=>Ri fun Z=>Qf 0 rfl ?_
 have hb1:=hs2.le _ _ hb1
 refine Q1 rfl (BC hs3 hb1 rfl)<|Qq rfl (q_not rfl)<|Nx Z<|cw_true rfl<|Ri fun Z=>Qc 4 rfl (BD hs3 hb2 rfl)<|St hs3.sat hor rfl fun w4 hs4 hor=>?_
 have:=hs4.size
 refine Na rfl Z<|cw_ret ?_
 have hb:=b11_ok.mono _ _ _ _ hs2.le (b11_ok.mono _ _ _ _ hs1.le hb)
 have hT:=hT.t hs3 |>.o hs4
 exact ⟨_,(Rc 4 rfl (OD hor rfl) (Rt rfl)),_,_,tup0,hT,hb⟩
theorem r11_meld_b {x:El} {ts:List (RT Bt)} {ca cb:List Value} (hs:Sat M w) (ha:B11 M (.node x ts) ca) (hb:B11 M .nil cb):
  Dz 52 #[.agg ca.toArray, .agg cb.toArray] w (fun v w'=>∃ cv M',v = .tuple #[.agg cv.toArray,wv (0)]∧Step Nope M w M' w'∧B11 M' (.node x ts) cv):=by
 have hT:=hs.r
 obtain ⟨x0,y0,a0,c0,rfl⟩:=b11_nil.1 hb
 obtain ⟨ka,kc,rfl,hK⟩:=b11_node.1 ha
 refine Fe Tryz.func52 [.cell 4 44, .tmp 5] rfl<|Ri fun Z=>Bm hs rfl fun b1 M1 w1 hs1 hb1 e1=>?_
 have:=hs1.size
 refine Bm hs1.sat rfl fun b2 M2 w2 hs2 hb2 e2=>?_
 have:=hs2.size
 have hT:=hT.t hs1 |>.t hs2
 have:=hT.size
 refine Al (.agg #[(.bool false),(.int .i64 0),(.int .i64 0),(.slice none 0 0)]) hs2.sat rfl fun br w3 hs3 hor er=>?_
 have:=hs3.size
 have:=hor.1.lt
 refine Na rfl Z<|cw_seq fun _ hK2=>Ri fun Z=>Qf 0 rfl ?_
 have hb1:=hs2.le _ _ hb1
 refine Q1 rfl (BC hs3 hb1 rfl)<|Qq rfl (q_not rfl)<|Nx Z<|cw_false rfl<|cw_skip<|hK2 _ _<|cw_seq fun _ hK4=>Ri fun Z=>Qf 0 rfl<|Q1 rfl (BC hs3 hb2 rfl)<|Qq rfl (q_not rfl)<|Nx Z<|cw_true rfl<|Ri fun Z=>Qc 4 rfl (BD hs3 hb1 rfl)<|St hs3.sat hor rfl fun w4 hs4 hor=>?_
 have:=hs4.size
 refine Na rfl Z<|cw_ret ?_
 have ha:=b11_ok.mono _ _ _ _ hs2.le (b11_ok.mono _ _ _ _ hs1.le ha)
 have hT:=hT.t hs3 |>.o hs4
 exact ⟨_,(Rc 4 rfl (OD hor rfl) (Rt rfl)),_,_,tup0,hT,ha⟩
theorem r11_meld_c {x y:El} {ts us:List (RT Bt)} {ca cb:List Value} (hs:Sat M w) (ha:B11 M (.node x ts) ca) (hb:B11 M (.node y us) cb) (hoa:Bt.okQ ts) (hob:Bt.okQ us) (hz:RT.sizes ts+RT.sizes us<1000000000):
  Dz 52 #[.agg ca.toArray, .agg cb.toArray] w (fun v w'=>∃ cv M',v = .tuple #[.agg cv.toArray,wv ((Bt.node x ts).meldC (.node y us))]∧Step Nope M w M' w'∧B11 M' ((Bt.node x ts).meld (.node y us)) cv):=by
 have hT:=hs.r
 obtain ⟨ka,kc,rfl,hK⟩:=b11_node.1 ha
 obtain ⟨ka2,kc2,rfl,hkW⟩:=b11_node.1 hb
 refine Fe Tryz.func52 [.cell 4 44, .tmp 5] rfl<|Ri fun Z=>Bm hs rfl fun b1 M1 w1 hs1 hb1 e1=>?_
 have:=hs1.size
 refine Bm hs1.sat rfl fun b2 M2 w2 hs2 hb2 e2=>?_
 have:=hs2.size
 have hT:=hT.t hs1 |>.t hs2
 have:=hT.size
 refine Al (.agg #[(.bool false),(.int .i64 0),(.int .i64 0),(.slice none 0 0)]) hs2.sat rfl fun br w3 hs3 hor er=>?_
 have:=hs3.size
 have:=hor.1.lt
 refine Na rfl Z<|cw_seq fun _ hK2=>Ri fun Z=>Qf 0 rfl ?_
 have hb1:=hs2.le _ _ hb1
 refine Q1 rfl (BC hs3 hb1 rfl)<|Qq rfl (q_not rfl)<|Nx Z<|cw_false rfl<|cw_skip<|hK2 _ _<|cw_seq fun _ hK4=>Ri fun Z=>Qf 0 rfl<|Q1 rfl (BC hs3 hb2 rfl)<|Qq rfl (q_not rfl)<|Nx Z<|cw_false rfl<|cw_skip<|hK4 _ _<|Ri fun Z=>Qc 4 rfl (BD hs3 hb1 rfl) ?_
 have hT:=hT.t hs3
 have:=hT.size
 refine Al (.agg #[(.bool false),(.int .i64 0),(.int .i64 0),(.slice none 0 0)]) hs3.sat rfl fun bwi w4 hs4 howi ewi=>?_
 have:=hs4.size
 have:=howi.1.lt
 refine St hs4.sat howi rfl fun w5 hs5 howi=>?_
 have:=hs5.size
 refine Nr Z fun Z=>Qc 4 rfl (BD hs5 hb2 rfl) ?_
 have hT:=hT.t hs4 |>.o hs5
 have:=hT.size
 refine Al (.agg #[(.bool false),(.int .i64 0),(.int .i64 0),(.slice none 0 0)]) hs5.sat rfl fun blo w6 hs6 holo elo=>?_
 have:=hs6.size
 have:=holo.1.lt
 refine St hs6.sat holo rfl fun w7 hs7 holo=>?_
 have:=hs7.size
 refine Nr Z fun Z=>Qf 1 rfl<|Qc 2 rfl (BD hs7 hb2 rfl)<|Qf 1 rfl<|Qc 2 rfl (BD hs7 hb1 rfl)<|Ca rfl ((ref_less (a:=y) (b:=x) hs7.sat).mono ?_)
 rintro _ w8 ⟨rfl,hs8⟩
 have:=hs8.size
 refine Na rfl Z<|cw_seq fun _ hK9=>Ri fun Z=>Qm rfl<|Nx Z ?_
 have ha:=b11_ok.mono _ _ _ _ hs2.le (b11_ok.mono _ _ _ _ hs1.le ha)
 have hb:=b11_ok.mono _ _ _ _ hs2.le (b11_ok.mono _ _ _ _ hs1.le hb)
 have hK:=hK.mono t11_ok hs1.le |>.mono t11_ok hs2.le
 have hkW:=hkW.mono t11_ok hs1.le |>.mono t11_ok hs2.le
 have hor:=hor.t hs4 |>.u hs5 |>.t hs6 |>.u hs7 |>.t hs8
 have howi:=howi.t hs6 |>.u hs7 |>.t hs8
 have hT:=hT.t hs6 |>.o hs7 |>.t hs8
 have holo:=holo.t hs8
 refine cw_cond rfl (fun hc2=>?_) (fun hc2=>?_)
 ·skip
  refine Ri fun Z=>Qc 4 rfl (BD hs8 hb2 rfl)<|St hs8.sat howi rfl fun w9 hs9 howi=>?_
  have:=hs9.size
  refine Nx Z<|cw_region fun _ Z=>Qc 4 rfl (BD hs9 hb1 rfl) ?_
  have holo:=holo.u hs9
  refine St hs9.sat holo rfl fun w10 hs10 holo=>?_
  have:=hs10.size
  refine as_nil (Z _ _ ?_)
  refine hK9 _ _<|Ri fun Z=>Qc 4 rfl (OD holo rfl)<|Qf 3 rfl ?_
  have howi:=howi.u hs10
  refine Q1 rfl (OC howi rfl)<|Ca rfl ((r11_ins (x:= .node x ts) hs10.sat ha bt_nn hkW hob O).mono ?_)
  rintro _ w11 ⟨mv,Mi,rfl,hs11,hn⟩
  obtain ⟨na,nc,rfl,_⟩:=hn.slice
  have:=hs11.size
  refine Qm rfl<|Qe rfl<|Qe rfl<|Qa rfl<|Nar rfl Z fun Z=>Qf 1 rfl ?_
  have howi:=howi.t hs11
  refine Qc 2 rfl (OD howi rfl)<|Qm rfl<|Qq rfl (q_build (zs:=[(.bool false),(.int .i64 0),(.int .i64 0),(.slice none 0 0)]) (places:=[(0,1),(1,2),(3,1)]) (cs:=[_,_,_,_]) V V rfl rfl)<|Qm rfl<|Qq rfl (q_addwi (b:=2) rfl rfl) ?_
  have hor:=hor.u hs9 |>.u hs10 |>.t hs11
  refine St hs11.sat hor rfl fun w12 hs12 hor=>?_
  have:=hs12.size
  refine Na rfl Z<|cw_ret ?_
  have hT:=hT.o hs9 |>.o hs10 |>.t hs11 |>.o hs12
  exact ⟨_,(Rc 4 rfl (OD hor rfl) (Rt rfl)),_,_,tup_eq (by rw [Bt.meldC,if_pos hc2]; omega),hT,by rw [Bt.meld,if_pos hc2]; exact b11_mk hn⟩
 ·skip
  refine cw_skip<|hK9 _ _<|Ri fun Z=>Qc 4 rfl (OD holo rfl)<|Qf 3 rfl<|Q1 rfl (OC howi rfl)<|Ca rfl ((r11_ins (x:= .node y us) hs8.sat hb bt_nn hK hoa O).mono ?_)
  rintro _ w13 ⟨mv,Mi,rfl,hs13,hn⟩
  obtain ⟨na,nc,rfl,_⟩:=hn.slice
  have:=hs13.size
  refine Qm rfl<|Qe rfl<|Qe rfl<|Qa rfl<|Nar rfl Z fun Z=>Qf 1 rfl ?_
  have howi:=howi.t hs13
  refine Qc 2 rfl (OD howi rfl)<|Qm rfl<|Qq rfl (q_build (zs:=[(.bool false),(.int .i64 0),(.int .i64 0),(.slice none 0 0)]) (places:=[(0,1),(1,2),(3,1)]) (cs:=[_,_,_,_]) V V rfl rfl)<|Qm rfl<|Qq rfl (q_addwi (b:=2) rfl rfl) ?_
  have hor:=hor.t hs13
  refine St hs13.sat hor rfl fun w14 hs14 hor=>?_
  have:=hs14.size
  refine Na rfl Z<|cw_ret ?_
  have hT:=hT.t hs13 |>.o hs14
  exact ⟨_,(Rc 4 rfl (OD hor rfl) (Rt rfl)),_,_,tup_eq (by rw [Bt.meldC,if_neg (by rw [hc2]; decide)]; omega),hT,by rw [Bt.meld,if_neg (by rw [hc2]; decide)]; exact b11_mk hn⟩
theorem ok_queue {t:Bt} (h:t.ok):Bt.okQ t.queue:=by
 cases t with
 | nil=>simp only [Bt.queue,Bt.okQ]
 | node x ts=>simp only [Bt.ok] at h; exact h.2.2
theorem r11_meld {a b:Bt} {ca cb:List Value} (hs:Sat M w) (ha:B11 M a ca) (hb:B11 M b cb) (hoa:Bt.okQ a.queue) (hob:Bt.okQ b.queue) (hz:RT.sizes a.queue+RT.sizes b.queue<1000000000):
  Dz 52 #[.agg ca.toArray, .agg cb.toArray] w (fun v w'=>∃ cv M',v = .tuple #[.agg cv.toArray,wv (a.meldC b)]∧Step Nope M w M' w'∧B11 M' (a.meld b) cv):=by
 cases a with
 | nil=>exact r11_meld_a hs ha hb
 | node x ts=>
  cases b with
  | nil=>exact r11_meld_b hs ha hb
  | node y us=>exact r11_meld_c hs ha hb hoa hob hz
theorem r11_insert {x:El} {t:Bt} {cs:List Value} (hs:Sat M w) (h:B11 M t cs) (ho:Bt.okQ t.queue) (hz:RT.sizes t.queue<1000000000):
  Dz 46 #[.agg (elc x).toArray, .agg cs.toArray] w (fun v w'=>∃ cv M',v = .tuple #[.agg cv.toArray,wv (t.insertC x)]∧Step Nope M w M' w'∧B11 M' (t.insert x) cv):=by
 have hT:=hs.r
 obtain ⟨_,_,_,_,_,rfl,_⟩:=h.shape
 refine Fe Tryz.func46 [.cell 4 44, .tmp 5] rfl<|Ri fun Z=>Bm hs rfl fun b1 M1 w1 hs1 hb1 e1=>?_
 have:=hs1.size
 refine Bm hs1.sat rfl fun b2 M2 w2 hs2 hb2 e2=>?_
 have:=hs2.size
 have hT:=hT.t hs1 |>.t hs2
 have:=hT.size
 refine Al (.agg #[(.bool false),(.int .i64 0),(.int .i64 0),(.slice none 0 0)]) hs2.sat rfl fun br w3 hs3 hor er=>?_
 have:=hs3.size
 have:=hor.1.lt
 refine Nar rfl Z fun Z=>?_
 have hb1:=hs2.le _ _ hb1
 refine Qc 2 rfl (BD hs3 hb1 rfl)<|Qq rfl (q_build (zs:=[(.bool false),(.int .i64 0),(.int .i64 0),(.slice none 0 0)]) (places:=[(0,1),(1,2),(3,1)]) (cs:=[_,_,_,_]) V V rfl rfl)<|Qc 4 rfl (BD hs3 hb2 rfl) ?_
 have h:=b11_ok.mono _ _ _ _ hs2.le (b11_ok.mono _ _ _ _ hs1.le h)
 refine Ca rfl ((r11_meld (a:= .node x []) hs3.sat (b11_mk Row.none) h (by simp only [Bt.queue,Bt.okQ]) ho (by simp only [Bt.queue,RT.sizes]; simp only [Bt.queue] at hz; omega)).mono ?_)
 rintro _ w4 ⟨cm,Mm,rfl,hs4,hm⟩
 obtain ⟨x3,y3,a3,n3,c3,rfl,_⟩:=hm.shape
 have:=hs4.size
 refine Qm rfl<|Qe rfl<|Qe rfl ?_
 have hT:=hT.t hs3 |>.t hs4
 have:=hT.size
 refine Al (.agg #[(.bool false),(.int .i64 0),(.int .i64 0),(.slice none 0 0)]) hs4.sat rfl fun bg w5 hs5 hog eg=>?_
 have:=hs5.size
 have:=hog.1.lt
 refine St hs5.sat hog rfl fun w6 hs6 hog=>?_
 have h:=b11_ok.mono _ _ _ _ hs4.le h
 have:=hs6.size
 refine Nar rfl Z fun Z=>Qc 4 rfl (OD hog rfl)<|Qm rfl<|Qq rfl (q_addwi (b:=1) rfl rfl) ?_
 have hor:=hor.t hs4 |>.t hs5 |>.u hs6
 refine St hs6.sat hor rfl fun w7 hs7 hor=>?_
 have:=hs7.size
 refine Na rfl Z<|cw_ret ?_
 have hT:=hT.t hs5 |>.o hs6 |>.o hs7
 exact ⟨_,(Rc 4 rfl (OD hor rfl) (Rt rfl)),_,_,tup_eq (Nat.add_comm _ _),hT,hm⟩
theorem r11_min {x:El} {ts:List (RT Bt)} {cs:List Value} (hs:Sat M w) (h:B11 M (.node x ts) cs):
  Dz 76 #[.agg cs.toArray] w (fun v w'=>v = .tuple #[.agg (elc x).toArray,wv 0]∧Step Nope M w M w'):=by
 have hT:=hs.r
 obtain ⟨ka,kc,rfl,hK⟩:=b11_node.1 h
 refine Fe Tryz.func76 [.cell 2 29, .tmp 3] rfl<|Ri fun Z=>Bm hs rfl fun b1 M1 w1 hs1 hb1 e1=>?_
 have:=hs1.size
 have hT:=hT.t hs1
 have:=hT.size
 refine Al (.agg #[(.int .i64 0),(.int .i64 0)]) hs1.sat rfl fun br w2 hs2 hor er=>?_
 have:=hs2.size
 have:=hor.1.lt
 refine Nar rfl Z fun Z=>Qf 1 rfl<|Qc 2 rfl (BD hs2 hb1 rfl)<|St hs2.sat hor rfl fun w3 hs3 hor=>?_
 have:=hs3.size
 refine Na rfl Z<|cw_ret ?_
 have hT:=hT.t hs2 |>.o hs3
 exact ⟨_,(Rc 2 rfl (OD hor rfl) (Rt rfl)),tup0,hT.forget⟩
theorem r11_pop_n {x:El} {cs:List Value} (hs:Sat M w) (h:B11 M (.node x []) cs):
  Dz 60 #[.agg cs.toArray] w (fun v w'=>∃ cv M',v = .tuple #[.agg cv.toArray,wv (0)]∧Step Nope M w M' w'∧B11 M' .nil cv):=by
 have hT:=hs.r
 obtain ⟨ka,kc,rfl,hK⟩:=b11_node.1 h
 refine Fe Tryz.func60 [.cell 2 44, .tmp 3] rfl<|Ri fun Z=>Bm hs rfl fun b1 M1 w1 hs1 hb1 e1=>?_
 have:=hs1.size
 have hT:=hT.t hs1
 have:=hT.size
 refine Al (.agg #[(.bool false),(.int .i64 0),(.int .i64 0),(.slice none 0 0)]) hs1.sat rfl fun br w2 hs2 hor er=>?_
 have:=hs2.size
 have:=hor.1.lt
 refine Na rfl Z<|cw_seq fun _ hK2=>Ri fun Z=>Qf 3 rfl<|Q1 rfl (BC hs2 hb1 rfl)<|Qq rfl (ql rfl)<|Qq rfl (q_eqT rfl rfl (by simp))<|Nx Z<|cw_true rfl<|Ri fun Z=>Qq rfl (q_build (zs:=[(.bool false),(.int .i64 0),(.int .i64 0),(.slice none 0 0)]) (places:=[(0,1),(1,2),(3,1)]) (cs:=[_,_,_,_]) V V rfl rfl)<|St hs2.sat hor rfl fun w3 hs3 hor=>?_
 have:=hs3.size
 refine Na rfl Z<|cw_ret ?_
 have hT:=hT.t hs2 |>.o hs3
 exact ⟨_,(Rc 4 rfl (OD hor rfl) (Rt rfl)),_,_,tup0,hT,b11_nil.2 ⟨_,_,_,_,rfl⟩⟩
theorem r11_pop {x y:El} {us:List (RT Bt)} {bs:List Bt} {ks ts:List (RT Bt)} {cs:List Value} (hs:Sat M w) (h:B11 M (.node x ts) cs) (hoq:Bt.okQ ts) (hou:Bt.okQ us) (hosp:Bt.okQ (spop ltB ts (.node (.node y us) bs ks))) (ht:ts[leastN ltB (ts.map RT.root) (ts.length-1)]? = some (.node (.node y us) bs ks)) (hz:RT.sizes ts≤1000000000) (hzz:RT.sizes us+RT.sizes (spop ltB ts (.node (.node y us) bs ks))≤1000000000):
  Dz 60 #[.agg cs.toArray] w (fun v w'=>∃ cv M',v = .tuple #[.agg cv.toArray,wv (ts.length-1+spopC ltB ts (.node (.node y us) bs ks)+smeldC ltB us (spop ltB ts (.node (.node y us) bs ks))+1)]∧Step Nope M w M' w'∧B11 M' (Bt.popped ts (.node (.node y us) bs ks) y us) cv):=by
 have hT:=hs.r
 obtain ⟨la,lc,rfl,hK⟩:=b11_node.1 h
 obtain ⟨g,o,tc,e_,_,hk0,hat⟩:=hK.get t11_ok ht
 subst e_
 obtain ⟨ra,ba,ka,rc,bc,kc,rfl,hR,hB,hQ⟩:=t11_iff.1 hk0
 obtain ⟨gr,or,rcs,er_,_,hr,hatr⟩:=hR.get b11_ok (i:=0) rfl
 subst er_
 obtain ⟨ua,uc,rfl,hus⟩:=b11_node.1 hr
 have hpos:0<ts.length:=Nat.lt_of_le_of_lt (Nat.zero_le _) (List.getElem?_eq_some_iff.1 ht).1
 have hbl:=leastN_le ltB (ts.map RT.root) (ts.length-1)
 have htsl:=RT.sizes_length ts
 refine Fe Tryz.func60 [.cell 2 44, .tmp 3] rfl<|Ri fun Z=>Bm hs rfl fun b1 M1 w1 hs1 hb1 e1=>?_
 have:=hs1.size
 have hT:=hT.t hs1
 have:=hT.size
 refine Al (.agg #[(.bool false),(.int .i64 0),(.int .i64 0),(.slice none 0 0)]) hs1.sat rfl fun br w2 hs2 hor er=>?_
 have:=hs2.size
 have:=hor.1.lt
 refine Na rfl Z<|cw_seq fun _ hK2=>Ri fun Z=>Qf 3 rfl<|Q1 rfl (BC hs2 hb1 rfl)<|Qq rfl (ql rfl)<|Qq rfl (qEF rfl)<|Nx Z<|cw_false rfl<|cw_skip<|hK2 _ _ ?_
 have hT:=hT.t hs2
 have hcut3:=hT.size
 have hK:=hK.mono t11_ok hs1.le
 have hus:=hus.mono t11_ok hs1.le
 refine cw_rdS (fun l3 w3=>∃ (M3:Mem mb) (bk:Nat) ,l3=[(1, .pointer (some ⟨b1,0,none⟩)),(2, .pointer (some ⟨br,0,none⟩)),(4, .pointer (some ⟨bk,0,none⟩))]∧Step Nope M1 w2 M3 w3∧Own w3 M3 bk [.bool true, .int .i64 y.1, .int .i64 y.2, .slice ua us.length uc] 44∧w2.heap.size≤bk∧True) V V V rfl rfl ?_ ?_
 ·have hR:=Step.refl Nope hs2.sat
  have hs4:=Step.drew hs2.sat
  have:=hs4.size
  refine Gf 0 1 3 rfl<|G1 1 3 rfl (BC hs4 hb1 rfl)<|Gf 2 7 3 rfl<|G1 3 15 rfl (BC hs4 hb1 rfl) ?_
  have hor:=hor.t hs4
  have hT:=hT.t hs4
  have hR:=hR.t hs4
  refine at_two (i:=4) (j:=10) V ?_ ?_
  ·refine Gi 4 31 rfl (Ks [T,F]) (h_call V rfl ?_)
   refine (r11_least hs4.sat hK hoq O).mono ?_
   rintro _ w5 ⟨rfl,hs5⟩
   have:=hs5.size
   have hor:=hor.t hs5
   have hT:=hT.t hs5
   have hR:=hR.t hs5
   refine ⟨(by repeat' first | exact trivial | exact BC hs5 hb1 rfl | refine And.intro ?_ ?_),?_⟩
   refine Gq 5 63 rfl (fun _=>qi 209 4 rfl)<|Gf 6 127 1 rfl<|G1 7 255 rfl ((hat _ _ hT.le hT.sat).2 1 _ rfl)<|Gq 8 511 rfl (fun _=>qi 44 4 rfl)<|Gc 9 1023 4 rfl (hatr _ _ hT.le hT.sat) ?_
   have hqak:=hT.size
   refine Gh 10 2047 rfl (Ks [F,F,F]) (h_allocO (z:=(.agg #[(.bool false),(.int .i64 0),(.int .i64 0),(.slice none 0 0)])) hs5.sat V rfl fun bk w6 hs6 hok ek=>?_)
   have:=hs6.size
   have hlk:=hok.1.lt
   have hor:=hor.t hs6
   have hT:=hT.t hs6
   have hR:=hR.t hs6
   refine ⟨(by repeat' first | exact trivial | exact BC hs6 hb1 rfl | exact ((hat _ _ hT.le hT.sat).2 1 _ rfl) | exact (hatr _ _ hT.le hT.sat) | refine And.intro ?_ ?_),?_⟩
   refine G0 11 4095 rfl (Ks [T,T,T]) (h_store hs6.sat hok rfl rfl rfl V rfl rfl rfl fun w7 hs7 hn7=>?_)
   clear hok; have hok:=hn7; clear hn7
   have:=hs7.size
   refine ⟨trivial,?_⟩
   refine Dd V ?_
   have hR:=hR.o hs7
   exact ⟨_,(.cons rfl (.cons rfl (.cons rfl (.nil _)))),_,_,rfl,hR,hok,by omega,trivial⟩
  ·have hqak:=hT.size
   refine Gi 10 1039 rfl (Ks [F,F]) (h_allocO (z:=(.agg #[(.bool false),(.int .i64 0),(.int .i64 0),(.slice none 0 0)])) hs4.sat V rfl fun bk w8 hs8 hok ek=>?_)
   have:=hs8.size
   have hlk:=hok.1.lt
   have hor:=hor.t hs8
   have hT:=hT.t hs8
   have hR:=hR.t hs8
   refine ⟨(by repeat' first | exact trivial | exact BC hs8 hb1 rfl | refine And.intro ?_ ?_),?_⟩
   refine Gh 4 1055 rfl (Ks [T,F]) (h_call V rfl ?_)
   refine (r11_least hs8.sat hK hoq O).mono ?_
   rintro _ w9 ⟨rfl,hs9⟩
   have:=hs9.size
   have hor:=hor.t hs9
   have hok:=hok.t hs9
   have hT:=hT.t hs9
   have hR:=hR.t hs9
   refine ⟨(by repeat' first | exact trivial | exact BC hs9 hb1 rfl | refine And.intro ?_ ?_),?_⟩
   refine Gq 5 1087 rfl (fun _=>qi 209 4 rfl)<|Gf 6 1151 1 rfl<|G1 7 1279 rfl ((hat _ _ hT.le hT.sat).2 1 _ rfl)<|Gq 8 1535 rfl (fun _=>qi 44 4 rfl)<|Gc 9 2047 4 rfl (hatr _ _ hT.le hT.sat)<|G0 11 4095 rfl (Ks [T,T,T]) (h_store hs9.sat hok rfl rfl rfl V rfl rfl rfl fun w10 hs10 hn10=>?_)
   clear hok; have hok:=hn10; clear hn10
   have:=hs10.size
   refine ⟨trivial,?_⟩
   refine Dd V ?_
   have hR:=hR.o hs10
   exact ⟨_,(.cons rfl (.cons rfl (.cons rfl (.nil _)))),_,_,rfl,hR,hok,by omega,trivial⟩
 rintro l3 w3 ⟨M3,bk,rfl,hs3,hok,hw3,_⟩
 have:=hs3.size
 have hlk:=hok.1.lt
 refine Ri fun Z=>Qf 3 rfl ?_
 have hb1:=hs3.le _ _ hb1
 refine Q1 rfl (BC hs3 hb1 rfl)<|Qq rfl (ql rfl)<|Qq rfl (qS rfl)<|Nar rfl Z fun Z=>Qf 3 rfl<|Q1 rfl (BC hs3 hb1 rfl) ?_
 have hK:=hK.mono t11_ok hs3.le
 refine Ca rfl ((r11_spop hs3.sat hK hoq ht hz).mono ?_)
 rintro _ w11 ⟨pv,Mp,rfl,hs11,hp⟩
 obtain ⟨pa,pc,rfl,_⟩:=hp.slice
 have:=hs11.size
 refine Qm rfl<|Qe rfl<|Qe rfl<|Qa rfl<|Nar rfl Z fun Z=>Qf 3 rfl ?_
 have hok:=hok.t hs11
 refine Q1 rfl (OC hok rfl)<|Qm rfl ?_
 have hus:=hus.mono t11_ok hs3.le |>.mono t11_ok hs11.le
 refine Ca rfl ((r11_smeld hs11.sat hus hp hou hosp hzz).mono ?_)
 rintro _ w12 ⟨mv,Mm,rfl,hs12,hm⟩
 obtain ⟨ma,mc,rfl,_⟩:=hm.slice
 have:=hs12.size
 refine Qm rfl<|Qe rfl<|Qe rfl<|Qa rfl<|Nar rfl Z fun Z=>Qf 1 rfl ?_
 have hok:=hok.t hs12
 refine Qc 2 rfl (OD hok rfl)<|Qm rfl<|Qq rfl (q_build (zs:=[(.bool false),(.int .i64 0),(.int .i64 0),(.slice none 0 0)]) (places:=[(0,1),(1,2),(3,1)]) (cs:=[_,_,_,_]) V V rfl rfl)<|Qm rfl<|Qm rfl<|Qq rfl (q_addiw (a:=ts.length-1) rfl rfl O)<|Qm rfl<|Qq rfl (q_addw rfl rfl)<|Qq rfl (q_addwi (b:=1) rfl rfl) ?_
 have hor:=hor.t hs3 |>.t hs11 |>.t hs12
 refine St hs12.sat hor rfl fun w13 hs13 hor=>?_
 have:=hs13.size
 refine Na rfl Z<|cw_ret ?_
 have hT:=hT.t hs3 |>.t hs11 |>.t hs12 |>.o hs13
 exact ⟨_,(Rc 4 rfl (OD hor rfl) (Rt rfl)),_,_,tup_eq rfl,hT,b11_mk hm⟩
end Go.Proofs.YtnnldppehojffaaGreat
/- The reference of heaps whose others are heaps, third part, part 2. -/
namespace Go.Proofs.YtnnldppehojffaaGreat
open Go Go.Eng
variable {mb:Option Nat} {w:World} {M:Mem mb}
def A11 (mb:Option Nat) (k:Nat):Prop:=∀ (w:World) (M:Mem mb) (t:RT Bt) (tc:List Value),Sat M w→T11 M t tc→t.size<k→t.size≤1000000000→Dz 106 #[.agg tc.toArray] w (fun v w'=>∃ M',Step Nope M w M' w'∧Row B11 4 M' (RT.all t) v)
theorem r11_all_n {w:World} {M:Mem mb} {x:Bt} {bs:List Bt} {ks:List (RT Bt)} {tc:List Value} {k0:Nat} (ih:A11 mb k0) (hs:Sat M w) (h:T11 M (.node x bs ks) tc) (hk0:(RT.node x bs ks).size<k0+1) (hz:(RT.node x bs ks).size≤1000000000):
  Dz 106 #[.agg tc.toArray] w (fun v w'=>∃ M',Step Nope M w M' w'∧Row B11 4 M' (x::bs++RT.alls ks) v):=by
 have hT:=hs.r
 obtain ⟨ra,ba,ka,rc,bc,kc,rfl,hR,hB,hK⟩:=t11_iff.1 h
 have hK0:=hK
 simp only [RT.size] at hz hk0
 have hksl:=RT.sizes_length ks
 refine Fe Tryz.func106 [.tmp 2] rfl<|Ri fun Z=>Bm hs rfl fun b1 M1 w1 hs1 hb1 e1=>?_
 have:=hs1.size
 refine Nar rfl Z fun Z=>Nar rfl Z fun Z=>?_
 have hr0:RowB 44 B11 4 w1.heap.size w1 M1 ([]:List Bt) (.slice none 0 0):=RowB.none
 refine Qm rfl<|Qf 1 rfl<|Q1 rfl (BC hs1 hb1 rfl) ?_
 have hR:=hR.mono b11_ok hs1.le
 refine as_h rfl (h_appB b11_ok (e:=44) (bytes:=48) V hs1.sat hr0 hR rfl rfl (by simp only [List.length_nil,List.length_cons]; omega) rfl O fun vr1 w2 hs2 hr1 hor2 hfl2=>?_)
 have hT:=hT.t hs1
 have hT:=hT.trans hs2 (fun k hk h=>by have:=hfl2 _ h; omega)
 obtain ⟨ar1,cr1,rfl⟩:=hr1.slice
 have:=hs2.size
 refine Nar rfl Z fun Z=>Qm rfl<|Qf 2 rfl<|Q1 rfl (BC hs2 hb1 rfl) ?_
 have hB:=hB.mono b11_ok hs1.le
 refine as_h rfl (h_appB b11_ok (e:=44) (bytes:=48) V hs2.sat hr1 hB rfl rfl (by simp only [List.length_nil,List.length_cons,List.length_append]; omega) rfl O fun vr2 w3 hs3 hr2 hor3 hfl3=>?_)
 have hT:=hT.trans hs3 (fun k hk h=>by have:=hfl3 _ h; omega)
 obtain ⟨ar2,cr2,rfl⟩:=hr2.slice
 have:=hs3.size
 refine Na rfl Z<|cw_seq fun _ hK5=>Ri fun Z=>Na rfl Z<|cw_block ?_
 have hK:=hK.mono t11_ok hs1.le
 refine cw_loop (fun mm l1 wL=>∃ (i:Nat) (vk:Value) (ML:Mem mb),mm=ks.length-i∧i≤ks.length∧l1=[(1, .pointer (some ⟨b1,0,none⟩)),(3,vk),(4, .int .i64 (i:Nat))]∧Step Nope M w ML wL∧w1.heap.size≤wL.heap.size∧RowB 44 B11 4 w1.heap.size wL ML (x::bs++RT.alls (ks.take i)) vk∧ML b1=some ([.int .i64 (ks.length:Nat), .slice ra 1 rc, .slice ba bs.length bc, .slice ka ks.length kc],209)) (ks.length) [(1, .pointer (some ⟨b1,0,none⟩)),(3, .slice ar2 ([]++[x]++bs).length cr2),(4, .int .i64 ((0:Nat):Int))] (.cons rfl (.cons rfl (.cons rfl (.nil _)))) ?_ ?_
 ·exact ⟨0,_,_,rfl,Nat.zero_le _,rfl,hT,by omega,hr2.cast (by simp [RT.alls]),hb1⟩
 have hBw:w.heap.size≤w1.heap.size:=by omega
 clear hT hb1 hR hB hK hr2
 have hK:=hK0
 rintro mm l1 wL ⟨i,vk,ML,rfl,hi,rfl,hT,hwL,hr3,hb1⟩
 obtain ⟨ak,ck,rfl⟩:=hr3.slice
 refine cw_seq fun _ hK7=>Ri fun Z=>Qm rfl<|Qf 3 rfl<|Q1 rfl (BC hT hb1 rfl)<|Qq rfl (ql rfl)<|Qq rfl (q_lt rfl rfl)<|Nx Z<|cw_cond rfl (fun hc0=>?_) (fun hc0=>?_)
 ·have hlt:i<ks.length:=by have:=of_decide_eq_true hc0; omega
  obtain ⟨k,hkk⟩:∃ k,ks[i]? = some k:=⟨ks[i],by simp⟩
  obtain ⟨g,o,kcs,e_,_,hk,hatk⟩:=hK0.get t11_ok hkk
  subst e_
  have hk:=t11_ok.mono _ _ _ _ hT.le hk
  obtain ⟨kra,kba,kka,knb,knk,krc,kbc,kkc,rfl⟩:=hk.shape
  have hks1:=RT.sizes_take hkk
  have hks2:=RT.sizes_take_le ks (i+1)
  have hal:(x::bs++RT.alls (ks.take i)).length=1+bs.length+RT.sizes (ks.take i):=by simp only [List.length_append,List.length_cons,RT.alls_length]; omega
  refine cw_skip<|hK7 _ _<|cw_seq fun _ hK9=>cw_block<|cw_region fun _ Z=>Qm rfl<|Qf 3 rfl<|Q1 rfl (BC hT hb1 rfl)<|Qm rfl<|Qq rfl (qi 209 4 rfl)<|Qc 4 rfl (hatk _ _ hT.le hT.sat)<|Ca rfl ((ih _ _ k _ hT.sat hk O O).mono ?_)
  rintro av w4 ⟨Ma,hs4,hav⟩
  have:=hs4.size
  have hr3:=hr3.then b11_ok hs4
  refine as_h rfl (h_appB b11_ok (e:=44) (bytes:=48) V hs4.sat hr3 hav rfl rfl (by rw [hal,RT.all_length]; omega) rfl O fun vr4 w5 hs5 hr4 hor5 hfl5=>?_)
  have hk:=t11_ok.mono _ _ _ _ hs4.le hk
  have hT:=hT.t hs4
  have hT:=hT.trans hs5 (fun k hk h=>by have:=hfl5 _ h; omega)
  obtain ⟨ar4,cr4,rfl⟩:=hr4.slice
  have:=hs5.size
  refine Qa rfl<|as_nil (Z _ _ ?_)
  refine hK9 _ _<|cw_region fun _ Z=>Qm rfl<|Qq rfl (qA rfl)<|Qa rfl<|as_nil (Z _ _ ?_)
  have hb1:=hs4.le _ _ hb1
  refine ⟨_,_,?_,(.cons rfl (.cons rfl (.cons rfl (.nil _)))),i+1,_,_,rfl,by omega,rfl,hT,by omega,hr4.cast (by rw [alls_take hkk]; simp only [List.cons_append,List.append_assoc]),hb1⟩
  omega
 ·have hge:i=ks.length:=by have:=of_decide_eq_false hc0; omega
  subst hge
  rw [List.take_length] at hr3
  refine cw_exit<|hK5 _ _<|Ri fun Z=>Qm rfl<|Na rfl Z<|cw_ret ?_
  obtain ⟨Mz,hT2,hle,hrz,_⟩:=hr3.freeze b11_ok hT O
  exact ⟨_,Rt rfl,_,hT2,by simp only [List.take_length] at hrz ⊢; exact hrz⟩
theorem r11_all:∀ k,A11 mb k
 | 0=>fun _ _ _ _ _ _ h _=>absurd h (Nat.not_lt_zero _)
 | k+1=>fun w M t tc hs h hk hz=>by
  cases t with
  | node x bs ks=>exact r11_all_n (r11_all k) hs h hk hz
theorem r11_queue {x:El} {ts:List (RT Bt)} {cs:List Value} (hs:Sat M w) (h:B11 M (.node x ts) cs) (hz:RT.sizes ts≤1000000000):
  Dz 95 #[.agg cs.toArray] w (fun v w'=>∃ M',Step Nope M w M' w'∧Row B11 4 M' (RT.alls ts) v):=by
 have hT:=hs.r
 obtain ⟨ka,kc,rfl,hK⟩:=b11_node.1 h
 have hksl:=RT.sizes_length ts
 refine Fe Tryz.func95 [.tmp 2] rfl<|Ri fun Z=>Bm hs rfl fun b1 M1 w1 hs1 hb1 e1=>?_
 have:=hs1.size
 refine Nar rfl Z fun Z=>Na rfl Z<|cw_seq fun _ hK3=>Ri fun Z=>Na rfl Z<|cw_block ?_
 have hT:=hT.t hs1
 refine cw_loop (fun mm l1 wL=>∃ (i:Nat) (vk:Value) (ML:Mem mb),mm=ts.length-i∧i≤ts.length∧l1=[(1, .pointer (some ⟨b1,0,none⟩)),(3,vk),(4, .int .i64 (i:Nat))]∧Step Nope M w ML wL∧w1.heap.size≤wL.heap.size∧RowB 44 B11 4 w1.heap.size wL ML (RT.alls (ts.take i)) vk∧ML b1=some ([.bool true, .int .i64 x.1, .int .i64 x.2, .slice ka ts.length kc],44)) (ts.length) [(1, .pointer (some ⟨b1,0,none⟩)),(3, .slice none 0 0),(4, .int .i64 ((0:Nat):Int))] (.cons rfl (.cons rfl (.cons rfl (.nil _)))) ?_ ?_
 ·exact ⟨0,_,_,rfl,Nat.zero_le _,rfl,hT,Nat.le_refl _,RowB.none.cast (by simp [RT.alls]),hb1⟩
 have hBw:w.heap.size≤w1.heap.size:=hT.size
 clear hT hb1
 rintro mm l1 wL ⟨i,vk,ML,rfl,hi,rfl,hT,hwL,hr3,hb1⟩
 obtain ⟨ak,ck,rfl⟩:=hr3.slice
 refine cw_seq fun _ hK5=>Ri fun Z=>Qm rfl<|Qf 3 rfl<|Q1 rfl (BC hT hb1 rfl)<|Qq rfl (ql rfl)<|Qq rfl (q_lt rfl rfl)<|Nx Z<|cw_cond rfl (fun hc0=>?_) (fun hc0=>?_)
 ·have hlt:i<ts.length:=by have:=of_decide_eq_true hc0; omega
  obtain ⟨k,hkk⟩:∃ k,ts[i]? = some k:=⟨ts[i],by simp⟩
  obtain ⟨g,o,kcs,e_,_,hk,hatk⟩:=hK.get t11_ok hkk
  subst e_
  have hk:=t11_ok.mono _ _ _ _ hT.le hk
  obtain ⟨kra,kba,kka,knb,knk,krc,kbc,kkc,rfl⟩:=hk.shape
  have hks1:=RT.sizes_take hkk
  have hks2:=RT.sizes_take_le ts (i+1)
  refine cw_skip<|hK5 _ _<|cw_seq fun _ hK7=>cw_block<|cw_region fun _ Z=>Qm rfl<|Qf 3 rfl<|Q1 rfl (BC hT hb1 rfl)<|Qm rfl<|Qq rfl (qi 209 4 rfl)<|Qc 4 rfl (hatk _ _ hT.le hT.sat)<|Ca rfl ((r11_all _ _ _ k _ hT.sat hk (Nat.lt_succ_self _) O).mono ?_)
  rintro av w2 ⟨Ma,hs2,hav⟩
  have:=hs2.size
  have hr3:=hr3.then b11_ok hs2
  refine as_h rfl (h_appB b11_ok (e:=44) (bytes:=48) V hs2.sat hr3 hav rfl rfl (by rw [RT.alls_length,RT.all_length]; omega) rfl O fun vr4 w3 hs3 hr4 hor3 hfl3=>?_)
  have hk:=t11_ok.mono _ _ _ _ hs2.le hk
  have hT:=hT.t hs2
  have hT:=hT.trans hs3 (fun k hk h=>by have:=hfl3 _ h; omega)
  obtain ⟨ar4,cr4,rfl⟩:=hr4.slice
  have:=hs3.size
  refine Qa rfl<|as_nil (Z _ _ ?_)
  refine hK7 _ _<|cw_region fun _ Z=>Qm rfl<|Qq rfl (qA rfl)<|Qa rfl<|as_nil (Z _ _ ?_)
  have hb1:=hs2.le _ _ hb1
  refine ⟨_,_,?_,(.cons rfl (.cons rfl (.cons rfl (.nil _)))),i+1,_,_,rfl,by omega,rfl,hT,by omega,hr4.cast (by rw [alls_take hkk]),hb1⟩
  omega
 ·have hge:i=ts.length:=by have:=of_decide_eq_false hc0; omega
  subst hge
  refine cw_exit<|hK3 _ _<|Ri fun Z=>Qm rfl<|Na rfl Z<|cw_ret ?_
  obtain ⟨Mz,hT2,hle,hrz,_⟩:=hr3.freeze b11_ok hT O
  exact ⟨_,Rt rfl,_,hT2,by simp only [List.take_length] at hrz ⊢; exact hrz⟩
def S11 (mb:Option Nat) (k:Nat):Prop:=∀ (w:World) (M:Mem mb) (t:Bt) (tc:List Value),Sat M w→B11 M t tc→t.ok→t.els.length<k→t.els.length≤1000000000→Dz 70 #[.agg tc.toArray] w (fun v w'=>v = .int .i64 ((t).els.length:Nat)∧∃ M',Step Nope M w M' w')
theorem r11_size_n {tc:List Value} (hs:Sat M w) (h:B11 M .nil tc):
  Dz 70 #[.agg tc.toArray] w (fun v w'=>v = .int .i64 ((Bt.nil).els.length:Nat)∧∃ M',Step Nope M w M' w'):=by
 have hT:=hs.r
 obtain ⟨x0,y0,a0,c0,rfl⟩:=b11_nil.1 h
 refine Fe Tryz.func70 [.tmp 2] rfl<|Ri fun Z=>Bm hs rfl fun b1 M1 w1 hs1 hb1 e1=>?_
 have:=hs1.size
 refine Na rfl Z<|cw_seq fun _ hK2=>Ri fun Z=>Qf 0 rfl<|Q1 rfl (BC hs1 hb1 rfl)<|Qq rfl (q_not rfl)<|Nx Z<|cw_true rfl<|Ri fun Z=>Na rfl Z<|cw_ret ?_
 have hT:=hT.t hs1
 exact ⟨_,Rt rfl,rfl,_,hT⟩
theorem r11_size_c {w:World} {M:Mem mb} {x:El} {ts:List (RT Bt)} {tc:List Value} {k0:Nat} (ih:S11 mb k0) (hs:Sat M w) (h:B11 M (.node x ts) tc) (ho:(Bt.node x ts).ok) (hk0:(Bt.node x ts).els.length<k0+1) (hz:(Bt.node x ts).els.length≤1000000000):
  Dz 70 #[.agg tc.toArray] w (fun v w'=>v = .int .i64 ((Bt.node x ts).els.length:Nat)∧∃ M',Step Nope M w M' w'):=by
 have hT:=hs.r
 have hqe:=Bt.queue_els ho
 have hokL:=(Bt.okQ_alls ts).2 (ok_queue ho)
 have hel:(Bt.node x ts).els.length=1+(Bt.elsL (RT.alls ts)).length:=by simp only [Bt.els,List.length_cons,Bt.elsQ_alls]; omega
 simp only [Bt.queue] at hqe
 have hall:(RT.alls ts).length=RT.sizes ts:=RT.alls_length ts
 obtain ⟨ka,kc,rfl,_⟩:=b11_node.1 h
 refine Fe Tryz.func70 [.tmp 2] rfl<|Ri fun Z=>Bm hs rfl fun b1 M1 w1 hs1 hb1 e1=>?_
 have:=hs1.size
 refine Na rfl Z<|cw_seq fun _ hK2=>Ri fun Z=>Qf 0 rfl<|Q1 rfl (BC hs1 hb1 rfl)<|Qq rfl (q_not rfl)<|Nx Z<|cw_false rfl<|cw_skip<|hK2 _ _<|Ri fun Z=>Nar rfl Z fun Z=>Qc 4 rfl (BD hs1 hb1 rfl) ?_
 have h:=b11_ok.mono _ _ _ _ hs1.le h
 refine Ca rfl ((r11_queue hs1.sat h O).mono ?_)
 rintro qv w2 ⟨Mq,hs2,hq⟩
 obtain ⟨qa,qc,rfl,_⟩:=hq.slice
 have:=hs2.size
 refine Na rfl Z<|cw_seq fun _ hK6=>Ri fun Z=>Na rfl Z<|cw_block ?_
 have hT:=hT.t hs1 |>.t hs2
 have h:=b11_ok.mono _ _ _ _ hs2.le h
 refine cw_loop (fun mm l1 wL=>∃ (i:Nat) (z:Int) (ML:Mem mb),mm=(RT.alls ts).length-i∧i≤(RT.alls ts).length∧z=((1+(Bt.elsL ((RT.alls ts).take i)).length:Nat):Int)∧l1=[(3, .int .i64 z),(4, .slice qa (RT.alls ts).length qc),(5, .int .i64 (i:Nat))]∧Step Nope M w ML wL∧Row B11 4 ML (RT.alls ts) (.slice qa (RT.alls ts).length qc)) ((RT.alls ts).length) [(3, .int .i64 1),(4, .slice qa (RT.alls ts).length qc),(5, .int .i64 ((0:Nat):Int))] (.cons rfl (.cons rfl (.cons rfl (.nil _)))) ?_ ?_
 ·exact ⟨0,_,_,rfl,Nat.zero_le _,by simp [Bt.elsL],rfl,hT,hq⟩
 clear hT hq h
 rintro mm l1 wL ⟨i,z,ML,rfl,hi,hzz,rfl,hT,hq⟩
 refine cw_seq fun _ hK8=>Ri fun Z=>Qm rfl<|Qm rfl<|Qq rfl (ql rfl)<|Qq rfl (q_lt rfl rfl)<|Nx Z<|cw_cond rfl (fun hc1=>?_) (fun hc1=>?_)
 ·have hlt:i<(RT.alls ts).length:=by have:=of_decide_eq_true hc1; omega
  obtain ⟨q,hqq⟩:∃ q,(RT.alls ts)[i]? = some q:=⟨(RT.alls ts)[i],by simp⟩
  obtain ⟨g,o,qcs,e_,_,hqb,hatq0⟩:=hq.get b11_ok hqq
  subst e_
  have hatq:=hatq0 ML wL (fun _ _ h=>h) hT.sat
  have hqo:=(Bt.okL_iff _).1 hokL q (List.mem_of_getElem? hqq)
  obtain ⟨ya,yn,ycc,rfl⟩:=hqb.full hqo.1
  have hle1:=elsL_take_le (RT.alls ts) (i+1)
  rw [elsL_take hqq,List.length_append] at hle1
  refine cw_skip<|hK8 _ _<|cw_seq fun _ hK10=>cw_block<|cw_region fun _ Z=>Qm rfl<|Qm rfl<|Qm rfl<|Qq rfl (qi 44 4 rfl)<|Qc 4 rfl (hatq0 _ _ (fun _ _ h=>h) hT.sat)<|Ca rfl ((ih _ _ q _ hT.sat hqb hqo.2 O O).mono ?_)
  rintro _ w3 ⟨rfl,Ms,hs3⟩
  have:=hs3.size
  refine Qq rfl (qA rfl)<|Qa rfl<|as_nil (Z _ _ ?_)
  refine hK10 _ _<|cw_region fun _ Z=>Qm rfl<|Qq rfl (qA rfl)<|Qa rfl<|as_nil (Z _ _ ?_)
  have hq:=hq.mono b11_ok hs3.le
  have hT:=hT.t hs3
  refine ⟨_,_,?_,(.cons rfl (.cons rfl (.cons rfl (.nil _)))),i+1,_,_,rfl,by omega,?_,rfl,hT,hq⟩
  ·omega
  ·rw [elsL_take hqq,List.length_append]; omega
 ·have hge:i=(RT.alls ts).length:=by have:=of_decide_eq_false hc1; omega
  subst hge
  rw [List.take_length] at hzz
  refine cw_exit<|hK6 _ _<|Ri fun Z=>Qm rfl<|Na rfl Z<|cw_ret ?_
  exact ⟨_,Rt rfl,congrArg (Value.int .i64) (by rw [hzz,hel]),_,hT⟩
theorem r11_size_all:∀ k,S11 mb k
 | 0=>fun _ _ _ _ _ _ _ h _=>absurd h (Nat.not_lt_zero _)
 | k+1=>fun w M t tc hs h ho hk hz=>by
  cases t with
  | nil=>exact r11_size_n hs h
  | node x ts=>exact r11_size_c (r11_size_all k) hs h ho hk hz
end Go.Proofs.YtnnldppehojffaaGreat
/- The reference of heaps with their least element apart, part 1. -/
namespace Go.Proofs.YtnnldppehojffaaGreat
open Go Go.Eng
variable {mb:Option Nat} {w:World} {M:Mem mb}
theorem r10_insert_n {x:El} {cs:List Value} (hs:Sat M w) (h:H10 M .nil cs):
  Dz 45 #[.agg (elc x).toArray, .agg cs.toArray] w (fun v w'=>∃ cv M',v = .tuple #[.agg cv.toArray,wv (1)]∧Step Nope M w M' w'∧H10 M' (.node x []) cv):=by
 have hT:=hs.r
 obtain ⟨x0,y0,a0,n0,c0,rfl⟩:=h
 refine Fe Tryz.func45 [.cell 4 41, .tmp 5] rfl<|Ri fun Z=>Bm hs rfl fun b1 M1 w1 hs1 hb1 e1=>?_
 have:=hs1.size
 refine Bm hs1.sat rfl fun b2 M2 w2 hs2 hb2 e2=>?_
 have:=hs2.size
 have hT:=hT.t hs1 |>.t hs2
 have:=hT.size
 refine Al (.agg #[(.bool false),(.int .i64 0),(.int .i64 0),(.slice none 0 0)]) hs2.sat rfl fun br w3 hs3 hor er=>?_
 have:=hs3.size
 have:=hor.1.lt
 refine Na rfl Z<|cw_seq fun _ hK2=>Ri fun Z=>Qf 0 rfl<|Q1 rfl (BC hs3 hb2 rfl)<|Qq rfl (q_not rfl)<|Nx Z<|cw_true rfl<|Ri fun Z=>?_
 have hb1:=hs2.le _ _ hb1
 refine Qc 2 rfl (BD hs3 hb1 rfl)<|Qq rfl (q_build (zs:=[(.bool false),(.int .i64 0),(.int .i64 0),(.slice none 0 0)]) (places:=[(0,1),(1,2),(3,1)]) (cs:=[_,_,_,_]) V V rfl rfl)<|St hs3.sat hor rfl fun w4 hs4 hor=>?_
 have:=hs4.size
 refine Na rfl Z<|cw_ret ?_
 have hT:=hT.t hs3 |>.o hs4
 exact ⟨_,(Rc 4 rfl (OD hor rfl) (Rt rfl)),_,_,tup1,hT,h10_mk Row.none⟩
theorem r10_insert_c {x y:El} {ts:List (RT El)} {cs:List Value} (hs:Sat M w) (h:H10 M (.node y ts) cs) (hz:(Ro.node y ts).size<1000000000):
  Dz 45 #[.agg (elc x).toArray, .agg cs.toArray] w (fun v w'=>∃ cv M',v = .tuple #[.agg cv.toArray,wv (2+sinsertC ts)]∧Step Nope M w M' w'∧H10 M' ((Ro.node y ts).insert x) cv):=by
 have hT:=hs.r
 obtain ⟨ta,tc,rfl,hl⟩:=h
 refine Fe Tryz.func45 [.cell 4 41, .tmp 5] rfl<|Ri fun Z=>Bm hs rfl fun b1 M1 w1 hs1 hb1 e1=>?_
 have:=hs1.size
 refine Bm hs1.sat rfl fun b2 M2 w2 hs2 hb2 e2=>?_
 have:=hs2.size
 have hT:=hT.t hs1 |>.t hs2
 have:=hT.size
 refine Al (.agg #[(.bool false),(.int .i64 0),(.int .i64 0),(.slice none 0 0)]) hs2.sat rfl fun br w3 hs3 hor er=>?_
 have:=hs3.size
 have:=hor.1.lt
 refine Na rfl Z<|cw_seq fun _ hK2=>Ri fun Z=>Qf 0 rfl<|Q1 rfl (BC hs3 hb2 rfl)<|Qq rfl (q_not rfl)<|Nx Z<|cw_false rfl<|cw_skip<|hK2 _ _<|Ri fun Z=>Qf 1 rfl<|Qc 2 rfl (BD hs3 hb2 rfl) ?_
 have hT:=hT.t hs3
 have:=hT.size
 refine Al (.agg #[(.int .i64 0),(.int .i64 0)]) hs3.sat rfl fun bwi w4 hs4 howi ewi=>?_
 have:=hs4.size
 have:=howi.1.lt
 refine St hs4.sat howi rfl fun w5 hs5 howi=>?_
 have:=hs5.size
 refine Nr Z fun Z=>?_
 have hb1:=hs2.le _ _ hb1
 refine Qc 2 rfl (BD hs5 hb1 rfl) ?_
 have hT:=hT.t hs4 |>.o hs5
 have:=hT.size
 refine Al (.agg #[(.int .i64 0),(.int .i64 0)]) hs5.sat rfl fun blo w6 hs6 holo elo=>?_
 have:=hs6.size
 have:=holo.1.lt
 refine St hs6.sat holo rfl fun w7 hs7 holo=>?_
 have:=hs7.size
 refine Nr Z fun Z=>Qc 2 rfl (BD hs7 hb1 rfl)<|Qf 1 rfl<|Qc 2 rfl (BD hs7 hb2 rfl)<|Ca rfl ((ref_less (a:=x) (b:=y) hs7.sat).mono ?_)
 rintro _ w8 ⟨rfl,hs8⟩
 have:=hs8.size
 refine Na rfl Z<|cw_seq fun _ hK7=>Ri fun Z=>Qm rfl<|Nx Z ?_
 have hl:=hl.mono t5_ok hs1.le |>.mono t5_ok hs2.le
 have hor:=hor.t hs4 |>.u hs5 |>.t hs6 |>.u hs7 |>.t hs8
 have howi:=howi.t hs6 |>.u hs7 |>.t hs8
 have hT:=hT.t hs6 |>.o hs7 |>.t hs8
 have holo:=holo.t hs8
 refine cw_cond rfl (fun hc1=>?_) (fun hc1=>?_)
 ·skip
  refine Ri fun Z=>Qc 2 rfl (BD hs8 hb1 rfl)<|St hs8.sat howi rfl fun w9 hs9 howi=>?_
  have:=hs9.size
  refine Nx Z<|cw_region fun _ Z=>Qf 1 rfl<|Qc 2 rfl (BD hs9 hb2 rfl) ?_
  have holo:=holo.u hs9
  refine St hs9.sat holo rfl fun w10 hs10 holo=>?_
  have:=hs10.size
  refine as_nil (Z _ _ ?_)
  refine hK7 _ _<|Ri fun Z=>Qc 2 rfl (OD holo rfl)<|Qf 3 rfl<|Qc 1 rfl (BD hs10 hb2 rfl)<|Ca rfl ((r9_insert (x:=y) hs10.sat hl (by simp only [Ro.size] at hz; omega)).mono ?_)
  rintro _ w11 ⟨mv,Mi,rfl,hs11,hn⟩
  obtain ⟨na,nc,rfl,_⟩:=hn.slice
  have:=hs11.size
  refine Qm rfl<|Qe rfl<|Qe rfl ?_
  have hT:=hT.o hs9 |>.o hs10 |>.t hs11
  have hqan:=hT.size
  refine Al (.agg #[(.slice none 0 0)]) hs11.sat rfl fun bn w12 hs12 hon en=>?_
  have:=hs12.size
  have hln:=hon.1.lt
  refine St hs12.sat hon rfl fun w13 hs13 hon=>?_
  have:=hs13.size
  refine Nar rfl Z fun Z=>?_
  have howi:=howi.u hs10 |>.t hs11 |>.t hs12 |>.u hs13
  refine Qc 2 rfl (OD howi rfl)<|Qc 1 rfl (OD hon rfl)<|Qq rfl (q_build (zs:=[(.bool false),(.int .i64 0),(.int .i64 0),(.slice none 0 0)]) (places:=[(0,1),(1,2),(3,1)]) (cs:=[_,_,_,_]) V V rfl rfl)<|Qm rfl<|Qq rfl (q_addwi (b:=2) rfl rfl) ?_
  have hor:=hor.u hs9 |>.u hs10 |>.t hs11 |>.t hs12 |>.u hs13
  refine St hs13.sat hor rfl fun w14 hs14 hor=>?_
  have:=hs14.size
  refine Na rfl Z<|cw_ret ?_
  have hT:=hT.t hs12 |>.o hs13 |>.o hs14
  exact ⟨_,(Rc 4 rfl (OD hor rfl) (Rt rfl)),_,_,tup_eq (Nat.add_comm _ _),hT,by rw [Ro.insert,if_pos hc1]; exact h10_mk hn⟩
 ·skip
  refine cw_skip<|hK7 _ _<|Ri fun Z=>Qc 2 rfl (OD holo rfl)<|Qf 3 rfl<|Qc 1 rfl (BD hs8 hb2 rfl)<|Ca rfl ((r9_insert (x:=x) hs8.sat hl (by simp only [Ro.size] at hz; omega)).mono ?_)
  rintro _ w15 ⟨mv,Mi,rfl,hs15,hn⟩
  obtain ⟨na,nc,rfl,_⟩:=hn.slice
  have:=hs15.size
  refine Qm rfl<|Qe rfl<|Qe rfl ?_
  have hT:=hT.t hs15
  have hqan:=hT.size
  refine Al (.agg #[(.slice none 0 0)]) hs15.sat rfl fun bn w16 hs16 hon en=>?_
  have:=hs16.size
  have hln:=hon.1.lt
  refine St hs16.sat hon rfl fun w17 hs17 hon=>?_
  have:=hs17.size
  refine Nar rfl Z fun Z=>?_
  have howi:=howi.t hs15 |>.t hs16 |>.u hs17
  refine Qc 2 rfl (OD howi rfl)<|Qc 1 rfl (OD hon rfl)<|Qq rfl (q_build (zs:=[(.bool false),(.int .i64 0),(.int .i64 0),(.slice none 0 0)]) (places:=[(0,1),(1,2),(3,1)]) (cs:=[_,_,_,_]) V V rfl rfl)<|Qm rfl<|Qq rfl (q_addwi (b:=2) rfl rfl) ?_
  have hor:=hor.t hs15 |>.t hs16 |>.u hs17
  refine St hs17.sat hor rfl fun w18 hs18 hor=>?_
  have:=hs18.size
  refine Na rfl Z<|cw_ret ?_
  have hT:=hT.t hs16 |>.o hs17 |>.o hs18
  exact ⟨_,(Rc 4 rfl (OD hor rfl) (Rt rfl)),_,_,tup_eq (Nat.add_comm _ _),hT,by rw [Ro.insert,if_neg (by rw [hc1]; decide)]; exact h10_mk hn⟩
theorem r10_insert {x:El} {t:Ro} {cs:List Value} (hs:Sat M w) (h:H10 M t cs) (hz:t.size<1000000000):
  Dz 45 #[.agg (elc x).toArray, .agg cs.toArray] w (fun v w'=>∃ cv M',v = .tuple #[.agg cv.toArray,wv (t.insertC)]∧Step Nope M w M' w'∧H10 M' (t.insert x) cv):=by
 cases t with
 | nil=>exact r10_insert_n hs h
 | node y ts=>exact r10_insert_c hs h hz
theorem r10_meld_a {b:Ro} {ca cb:List Value} (hs:Sat M w) (ha:H10 M .nil ca) (hb:H10 M b cb):
  Dz 51 #[.agg ca.toArray, .agg cb.toArray] w (fun v w'=>∃ cv M',v = .tuple #[.agg cv.toArray,wv (0)]∧Step Nope M w M' w'∧H10 M' b cv):=by
 have hT:=hs.r
 obtain ⟨x0,y0,a0,n0,c0,rfl⟩:=ha
 have hsh:∃ (b:Bool) (x y:Int) (a:Option Addr) (n c:Nat),cb=[.bool b, .int .i64 x, .int .i64 y, .slice a n c]:=by
  cases b with
  | nil=>obtain ⟨x,y,a,n,c,h⟩:=hb; exact ⟨_,_,_,_,_,_,h⟩
  | node x ts=>obtain ⟨a,c,h,_⟩:=hb; exact ⟨_,_,_,_,_,_,h⟩
 obtain ⟨_,_,_,_,_,_,rfl⟩:=hsh
 refine Fe Tryz.func51 [.cell 4 41, .tmp 5] rfl<|Ri fun Z=>Bm hs rfl fun b1 M1 w1 hs1 hb1 e1=>?_
 have:=hs1.size
 refine Bm hs1.sat rfl fun b2 M2 w2 hs2 hb2 e2=>?_
 have:=hs2.size
 have hT:=hT.t hs1 |>.t hs2
 have:=hT.size
 refine Al (.agg #[(.bool false),(.int .i64 0),(.int .i64 0),(.slice none 0 0)]) hs2.sat rfl fun br w3 hs3 hor er=>?_
 have:=hs3.size
 have:=hor.1.lt
 refine Na rfl Z<|cw_seq fun _ hK2=>Ri fun Z=>Qf 0 rfl ?_
 have hb1:=hs2.le _ _ hb1
 refine Q1 rfl (BC hs3 hb1 rfl)<|Qq rfl (q_not rfl)<|Nx Z<|cw_true rfl<|Ri fun Z=>Qc 4 rfl (BD hs3 hb2 rfl)<|St hs3.sat hor rfl fun w4 hs4 hor=>?_
 have:=hs4.size
 refine Na rfl Z<|cw_ret ?_
 have hT:=hT.t hs3 |>.o hs4
 exact ⟨_,(Rc 4 rfl (OD hor rfl) (Rt rfl)),_,_,tup0,hT,hb.mono hT.le⟩
theorem r10_meld_b {x:El} {ts:List (RT El)} {ca cb:List Value} (hs:Sat M w) (ha:H10 M (.node x ts) ca) (hb:H10 M .nil cb):
  Dz 51 #[.agg ca.toArray, .agg cb.toArray] w (fun v w'=>∃ cv M',v = .tuple #[.agg cv.toArray,wv (0)]∧Step Nope M w M' w'∧H10 M' (.node x ts) cv):=by
 have hT:=hs.r
 obtain ⟨x0,y0,a0,n0,c0,rfl⟩:=hb
 obtain ⟨ta,tc,rfl,_⟩:=id ha
 refine Fe Tryz.func51 [.cell 4 41, .tmp 5] rfl<|Ri fun Z=>Bm hs rfl fun b1 M1 w1 hs1 hb1 e1=>?_
 have:=hs1.size
 refine Bm hs1.sat rfl fun b2 M2 w2 hs2 hb2 e2=>?_
 have:=hs2.size
 have hT:=hT.t hs1 |>.t hs2
 have:=hT.size
 refine Al (.agg #[(.bool false),(.int .i64 0),(.int .i64 0),(.slice none 0 0)]) hs2.sat rfl fun br w3 hs3 hor er=>?_
 have:=hs3.size
 have:=hor.1.lt
 refine Na rfl Z<|cw_seq fun _ hK2=>Ri fun Z=>Qf 0 rfl ?_
 have hb1:=hs2.le _ _ hb1
 refine Q1 rfl (BC hs3 hb1 rfl)<|Qq rfl (q_not rfl)<|Nx Z<|cw_false rfl<|cw_skip<|hK2 _ _<|cw_seq fun _ hK4=>Ri fun Z=>Qf 0 rfl<|Q1 rfl (BC hs3 hb2 rfl)<|Qq rfl (q_not rfl)<|Nx Z<|cw_true rfl<|Ri fun Z=>Qc 4 rfl (BD hs3 hb1 rfl)<|St hs3.sat hor rfl fun w4 hs4 hor=>?_
 have:=hs4.size
 refine Na rfl Z<|cw_ret ?_
 have hT:=hT.t hs3 |>.o hs4
 exact ⟨_,(Rc 4 rfl (OD hor rfl) (Rt rfl)),_,_,tup0,hT,ha.mono hT.le⟩
theorem r10_meld_c {x y:El} {ts us:List (RT El)} {ca cb:List Value} (hs:Sat M w) (ha:H10 M (.node x ts) ca) (hb:H10 M (.node y us) cb) (hz:(Ro.node x ts).size+(Ro.node y us).size≤1000000000):
  Dz 51 #[.agg ca.toArray, .agg cb.toArray] w (fun v w'=>∃ cv M',v = .tuple #[.agg cv.toArray,wv ((Ro.node x ts).meldC (.node y us))]∧Step Nope M w M' w'∧H10 M' ((Ro.node x ts).meld (.node y us)) cv):=by
 have hT:=hs.r
 obtain ⟨taa,tca,rfl,hla⟩:=ha
 obtain ⟨tab,tcb,rfl,hlb⟩:=hb
 refine Fe Tryz.func51 [.cell 4 41, .tmp 5] rfl<|Ri fun Z=>Bm hs rfl fun b1 M1 w1 hs1 hb1 e1=>?_
 have:=hs1.size
 refine Bm hs1.sat rfl fun b2 M2 w2 hs2 hb2 e2=>?_
 have:=hs2.size
 have hT:=hT.t hs1 |>.t hs2
 have:=hT.size
 refine Al (.agg #[(.bool false),(.int .i64 0),(.int .i64 0),(.slice none 0 0)]) hs2.sat rfl fun br w3 hs3 hor er=>?_
 have:=hs3.size
 have:=hor.1.lt
 refine Na rfl Z<|cw_seq fun _ hK2=>Ri fun Z=>Qf 0 rfl ?_
 have hb1:=hs2.le _ _ hb1
 refine Q1 rfl (BC hs3 hb1 rfl)<|Qq rfl (q_not rfl)<|Nx Z<|cw_false rfl<|cw_skip<|hK2 _ _<|cw_seq fun _ hK4=>Ri fun Z=>Qf 0 rfl<|Q1 rfl (BC hs3 hb2 rfl)<|Qq rfl (q_not rfl)<|Nx Z<|cw_false rfl<|cw_skip<|hK4 _ _<|Ri fun Z=>Qf 1 rfl<|Qc 2 rfl (BD hs3 hb1 rfl) ?_
 have hT:=hT.t hs3
 have:=hT.size
 refine Al (.agg #[(.int .i64 0),(.int .i64 0)]) hs3.sat rfl fun bwi w4 hs4 howi ewi=>?_
 have:=hs4.size
 have:=howi.1.lt
 refine St hs4.sat howi rfl fun w5 hs5 howi=>?_
 have:=hs5.size
 refine Nr Z fun Z=>Qf 1 rfl<|Qc 2 rfl (BD hs5 hb2 rfl) ?_
 have hT:=hT.t hs4 |>.o hs5
 have:=hT.size
 refine Al (.agg #[(.int .i64 0),(.int .i64 0)]) hs5.sat rfl fun blo w6 hs6 holo elo=>?_
 have:=hs6.size
 have:=holo.1.lt
 refine St hs6.sat holo rfl fun w7 hs7 holo=>?_
 have:=hs7.size
 refine Nr Z fun Z=>Qf 1 rfl<|Qc 2 rfl (BD hs7 hb2 rfl)<|Qf 1 rfl<|Qc 2 rfl (BD hs7 hb1 rfl)<|Ca rfl ((ref_less (a:=y) (b:=x) hs7.sat).mono ?_)
 rintro _ w8 ⟨rfl,hs8⟩
 have:=hs8.size
 refine Na rfl Z<|cw_seq fun _ hK9=>Ri fun Z=>Qm rfl<|Nx Z ?_
 have hla:=hla.mono t5_ok hs1.le |>.mono t5_ok hs2.le
 have hlb:=hlb.mono t5_ok hs1.le |>.mono t5_ok hs2.le
 have hor:=hor.t hs4 |>.u hs5 |>.t hs6 |>.u hs7 |>.t hs8
 have howi:=howi.t hs6 |>.u hs7 |>.t hs8
 have hT:=hT.t hs6 |>.o hs7 |>.t hs8
 have holo:=holo.t hs8
 refine cw_cond rfl (fun hc2=>?_) (fun hc2=>?_)
 ·skip
  refine Ri fun Z=>Qf 1 rfl<|Qc 2 rfl (BD hs8 hb2 rfl)<|St hs8.sat howi rfl fun w9 hs9 howi=>?_
  have:=hs9.size
  refine Nx Z<|cw_region fun _ Z=>Qf 1 rfl<|Qc 2 rfl (BD hs9 hb1 rfl) ?_
  have holo:=holo.u hs9
  refine St hs9.sat holo rfl fun w10 hs10 holo=>?_
  have:=hs10.size
  refine as_nil (Z _ _ ?_)
  refine hK9 _ _<|Ri fun Z=>Qf 3 rfl<|Qc 1 rfl (BD hs10 hb1 rfl)<|Qf 3 rfl<|Qc 1 rfl (BD hs10 hb2 rfl)<|Ca rfl ((r9_meld hs10.sat hla hlb (by simp only [Ro.size] at hz; omega)).mono ?_)
  rintro _ w11 ⟨mv,Mm,rfl,hs11,hm⟩
  obtain ⟨ma,mc,rfl,_⟩:=hm.slice
  have:=hs11.size
  refine Qm rfl<|Qe rfl<|Qe rfl ?_
  have hT:=hT.o hs9 |>.o hs10 |>.t hs11
  have hqam:=hT.size
  refine Al (.agg #[(.slice none 0 0)]) hs11.sat rfl fun bm w12 hs12 hom em=>?_
  have:=hs12.size
  have hlm:=hom.1.lt
  refine St hs12.sat hom rfl fun w13 hs13 hom=>?_
  have:=hs13.size
  refine Nar rfl Z fun Z=>?_
  have holo:=holo.t hs11 |>.t hs12 |>.u hs13
  refine Qc 2 rfl (OD holo rfl)<|Qc 1 rfl (OD hom rfl)<|Ca rfl ((r9_insert (x:=x) hs13.sat hm (by rw [smeld_size]; simp only [Ro.size] at hz; omega)).mono ?_)
  rintro _ w14 ⟨nv,Mi,rfl,hs14,hn⟩
  obtain ⟨na,nc,rfl,_⟩:=hn.slice
  have:=hs14.size
  refine Qm rfl<|Qe rfl<|Qe rfl ?_
  have hT:=hT.t hs12 |>.o hs13 |>.t hs14
  have hqan:=hT.size
  refine Al (.agg #[(.slice none 0 0)]) hs14.sat rfl fun bn w15 hs15 hon en=>?_
  have:=hs15.size
  have hln:=hon.1.lt
  refine St hs15.sat hon rfl fun w16 hs16 hon=>?_
  have:=hs16.size
  refine Nar rfl Z fun Z=>?_
  have howi:=howi.u hs10 |>.t hs11 |>.t hs12 |>.u hs13 |>.t hs14 |>.t hs15 |>.u hs16
  refine Qc 2 rfl (OD howi rfl)<|Qc 1 rfl (OD hon rfl)<|Qq rfl (q_build (zs:=[(.bool false),(.int .i64 0),(.int .i64 0),(.slice none 0 0)]) (places:=[(0,1),(1,2),(3,1)]) (cs:=[_,_,_,_]) V V rfl rfl)<|Qm rfl<|Qm rfl<|Qq rfl (q_addw rfl rfl)<|Qq rfl (q_addwi (b:=2) rfl rfl) ?_
  have hor:=hor.u hs9 |>.u hs10 |>.t hs11 |>.t hs12 |>.u hs13 |>.t hs14 |>.t hs15 |>.u hs16
  refine St hs16.sat hor rfl fun w17 hs17 hor=>?_
  have:=hs17.size
  refine Na rfl Z<|cw_ret ?_
  have hT:=hT.t hs15 |>.o hs16 |>.o hs17
  exact ⟨_,(Rc 4 rfl (OD hor rfl) (Rt rfl)),_,_,tup_eq (by rw [Ro.meldC]; omega),hT,by rw [Ro.meld,if_pos hc2]; exact h10_mk hn⟩
 ·skip
  refine cw_skip<|hK9 _ _<|Ri fun Z=>Qf 3 rfl<|Qc 1 rfl (BD hs8 hb1 rfl)<|Qf 3 rfl<|Qc 1 rfl (BD hs8 hb2 rfl)<|Ca rfl ((r9_meld hs8.sat hla hlb (by simp only [Ro.size] at hz; omega)).mono ?_)
  rintro _ w18 ⟨mv,Mm,rfl,hs18,hm⟩
  obtain ⟨ma,mc,rfl,_⟩:=hm.slice
  have:=hs18.size
  refine Qm rfl<|Qe rfl<|Qe rfl ?_
  have hT:=hT.t hs18
  have hqam:=hT.size
  refine Al (.agg #[(.slice none 0 0)]) hs18.sat rfl fun bm w19 hs19 hom em=>?_
  have:=hs19.size
  have hlm:=hom.1.lt
  refine St hs19.sat hom rfl fun w20 hs20 hom=>?_
  have:=hs20.size
  refine Nar rfl Z fun Z=>?_
  have holo:=holo.t hs18 |>.t hs19 |>.u hs20
  refine Qc 2 rfl (OD holo rfl)<|Qc 1 rfl (OD hom rfl)<|Ca rfl ((r9_insert (x:=y) hs20.sat hm (by rw [smeld_size]; simp only [Ro.size] at hz; omega)).mono ?_)
  rintro _ w21 ⟨nv,Mi,rfl,hs21,hn⟩
  obtain ⟨na,nc,rfl,_⟩:=hn.slice
  have:=hs21.size
  refine Qm rfl<|Qe rfl<|Qe rfl ?_
  have hT:=hT.t hs19 |>.o hs20 |>.t hs21
  have hqan:=hT.size
  refine Al (.agg #[(.slice none 0 0)]) hs21.sat rfl fun bn w22 hs22 hon en=>?_
  have:=hs22.size
  have hln:=hon.1.lt
  refine St hs22.sat hon rfl fun w23 hs23 hon=>?_
  have:=hs23.size
  refine Nar rfl Z fun Z=>?_
  have howi:=howi.t hs18 |>.t hs19 |>.u hs20 |>.t hs21 |>.t hs22 |>.u hs23
  refine Qc 2 rfl (OD howi rfl)<|Qc 1 rfl (OD hon rfl)<|Qq rfl (q_build (zs:=[(.bool false),(.int .i64 0),(.int .i64 0),(.slice none 0 0)]) (places:=[(0,1),(1,2),(3,1)]) (cs:=[_,_,_,_]) V V rfl rfl)<|Qm rfl<|Qm rfl<|Qq rfl (q_addw rfl rfl)<|Qq rfl (q_addwi (b:=2) rfl rfl) ?_
  have hor:=hor.t hs18 |>.t hs19 |>.u hs20 |>.t hs21 |>.t hs22 |>.u hs23
  refine St hs23.sat hor rfl fun w24 hs24 hor=>?_
  have:=hs24.size
  refine Na rfl Z<|cw_ret ?_
  have hT:=hT.t hs22 |>.o hs23 |>.o hs24
  exact ⟨_,(Rc 4 rfl (OD hor rfl) (Rt rfl)),_,_,tup_eq (by rw [Ro.meldC]; omega),hT,by rw [Ro.meld,if_neg (by rw [hc2]; decide)]; exact h10_mk hn⟩
theorem r10_meld {a b:Ro} {ca cb:List Value} (hs:Sat M w) (ha:H10 M a ca) (hb:H10 M b cb) (hz:a.size+b.size≤1000000000):
  Dz 51 #[.agg ca.toArray, .agg cb.toArray] w (fun v w'=>∃ cv M',v = .tuple #[.agg cv.toArray,wv (a.meldC b)]∧Step Nope M w M' w'∧H10 M' (a.meld b) cv):=by
 cases a with
 | nil=>exact r10_meld_a hs ha hb
 | node x ts=>
  cases b with
  | nil=>exact r10_meld_b hs ha hb
  | node y us=>exact r10_meld_c hs ha hb hz
theorem r10_min {x:El} {ts:List (RT El)} {cs:List Value} (hs:Sat M w) (h:H10 M (.node x ts) cs):
  Dz 75 #[.agg cs.toArray] w (fun v w'=>v = .tuple #[.agg (elc x).toArray,wv 0]∧Step Nope M w M w'):=by
 have hT:=hs.r
 obtain ⟨ta,tc,rfl,hl⟩:=h
 refine Fe Tryz.func75 [.cell 2 29, .tmp 3] rfl<|Ri fun Z=>Bm hs rfl fun b1 M1 w1 hs1 hb1 e1=>?_
 have:=hs1.size
 have hT:=hT.t hs1
 have:=hT.size
 refine Al (.agg #[(.int .i64 0),(.int .i64 0)]) hs1.sat rfl fun br w2 hs2 hor er=>?_
 have:=hs2.size
 have:=hor.1.lt
 refine Nar rfl Z fun Z=>Qf 1 rfl<|Qc 2 rfl (BD hs2 hb1 rfl)<|St hs2.sat hor rfl fun w3 hs3 hor=>?_
 have:=hs3.size
 refine Na rfl Z<|cw_ret ?_
 have hT:=hT.t hs2 |>.o hs3
 exact ⟨_,(Rc 2 rfl (OD hor rfl) (Rt rfl)),tup0,hT.forget⟩
theorem r10_size_n {cs:List Value} (hs:Sat M w) (h:H10 M .nil cs):
  Dz 69 #[.agg cs.toArray] w (fun v w'=>v = .int .i64 (Ro.nil.size:Nat)∧Step Nope M w M w'):=by
 have hT:=hs.r
 obtain ⟨x0,y0,a0,n0,c0,rfl⟩:=h
 refine Fe Tryz.func69 [.tmp 2] rfl<|Ri fun Z=>Bm hs rfl fun b1 M1 w1 hs1 hb1 e1=>?_
 have:=hs1.size
 refine Na rfl Z<|cw_seq fun _ hK2=>Ri fun Z=>Qf 0 rfl<|Q1 rfl (BC hs1 hb1 rfl)<|Qq rfl (q_not rfl)<|Nx Z<|cw_true rfl<|Ri fun Z=>Na rfl Z<|cw_ret ?_
 have hT:=hT.t hs1
 exact ⟨_,Rt rfl,rfl,hT.forget⟩
theorem r10_size_c {x:El} {ts:List (RT El)} {cs:List Value} (hs:Sat M w) (h:H10 M (.node x ts) cs) (hz:(Ro.node x ts).size≤1000000000):
  Dz 69 #[.agg cs.toArray] w (fun v w'=>v = .int .i64 ((Ro.node x ts).size:Nat)∧Step Nope M w M w'):=by
 have hT:=hs.r
 obtain ⟨ta,tc,rfl,hl⟩:=h
 refine Fe Tryz.func69 [.tmp 2] rfl<|Ri fun Z=>Bm hs rfl fun b1 M1 w1 hs1 hb1 e1=>?_
 have:=hs1.size
 refine Na rfl Z<|cw_seq fun _ hK2=>Ri fun Z=>Qf 0 rfl<|Q1 rfl (BC hs1 hb1 rfl)<|Qq rfl (q_not rfl)<|Nx Z<|cw_false rfl<|cw_skip<|hK2 _ _<|Ri fun Z=>Qf 3 rfl<|Qc 1 rfl (BD hs1 hb1 rfl) ?_
 have hl:=hl.mono t5_ok hs1.le
 refine Ca rfl ((r9_size hs1.sat hl (by simp only [Ro.size] at hz; omega)).mono ?_)
 rintro _ w2 ⟨rfl,hs2⟩
 have:=hs2.size
 refine Qq rfl (q_addx rfl rfl (by simp only [Ro.size] at hz; omega) (by simp only [Ro.size] at hz; omega))<|Na rfl Z<|cw_ret ?_
 have hT:=hT.t hs1 |>.t hs2
 exact ⟨_,Rt rfl,congrArg (Value.int .i64) (by simp only [Ro.size]; omega),hT.forget⟩
theorem r10_size {t:Ro} {cs:List Value} (hs:Sat M w) (h:H10 M t cs) (hz:t.size≤1000000000):
  Dz 69 #[.agg cs.toArray] w (fun v w'=>v = .int .i64 (t.size:Nat)∧Step Nope M w M w'):=by
 cases t with
 | nil=>exact r10_size_n hs h
 | node y ts=>exact r10_size_c hs h hz
theorem r10_pop_n {x:El} {cs:List Value} (hs:Sat M w) (h:H10 M (.node x []) cs):
  Dz 59 #[.agg cs.toArray] w (fun v w'=>∃ cv M',v = .tuple #[.agg cv.toArray,wv (0)]∧Step Nope M w M' w'∧H10 M' .nil cv):=by
 have hT:=hs.r
 obtain ⟨ta,tc,rfl,hl⟩:=h
 refine Fe Tryz.func59 [.cell 2 41, .tmp 3] rfl<|Ri fun Z=>Bm hs rfl fun b1 M1 w1 hs1 hb1 e1=>?_
 have:=hs1.size
 have hT:=hT.t hs1
 have:=hT.size
 refine Al (.agg #[(.bool false),(.int .i64 0),(.int .i64 0),(.slice none 0 0)]) hs1.sat rfl fun br w2 hs2 hor er=>?_
 have:=hs2.size
 have:=hor.1.lt
 refine Na rfl Z<|cw_seq fun _ hK2=>Ri fun Z=>Qf 3 rfl<|Qc 1 rfl (BD hs2 hb1 rfl) ?_
 have hl:=hl.mono t5_ok hs1.le
 refine Ca rfl ((r9_size hs2.sat hl (by simp only [RT.sizes]; omega)).mono ?_)
 rintro _ w3 ⟨rfl,hs3⟩
 have:=hs3.size
 refine Qq rfl (q_eqT rfl rfl (by simp only [RT.sizes]; rfl))<|Nx Z<|cw_true rfl<|Ri fun Z=>Qq rfl (q_build (zs:=[(.bool false),(.int .i64 0),(.int .i64 0),(.slice none 0 0)]) (places:=[(0,1),(1,2),(3,1)]) (cs:=[_,_,_,_]) V V rfl rfl) ?_
 have hor:=hor.t hs3
 refine St hs3.sat hor rfl fun w4 hs4 hor=>?_
 have:=hs4.size
 refine Na rfl Z<|cw_ret ?_
 have hT:=hT.t hs2 |>.t hs3 |>.o hs4
 exact ⟨_,(Rc 4 rfl (OD hor rfl) (Rt rfl)),_,_,tup0,hT,⟨_,_,_,_,_,rfl⟩⟩
theorem r10_pop {x y:El} {bs:List El} {ks ts:List (RT El)} {cs:List Value} (hs:Sat M w) (h:H10 M (.node x ts) cs) (ht:ts[leastN ltE (ts.map RT.root) (ts.length-1)]? = some (.node y bs ks)) (hz:RT.sizes ts≤1000000000):
  Dz 59 #[.agg cs.toArray] w (fun v w'=>∃ cv M',v = .tuple #[.agg cv.toArray,wv (ts.length-1+spopC ltE ts (.node y bs ks)+1)]∧Step Nope M w M' w'∧H10 M' (.node y (spop ltE ts (.node y bs ks))) cv):=by
 have hT:=hs.r
 obtain ⟨ta,tc,rfl,hl⟩:=h
 have hpos:0<ts.length:=Nat.lt_of_le_of_lt (Nat.zero_le _) (List.getElem?_eq_some_iff.1 ht).1
 have hlz:=RT.sizes_length ts
 refine Fe Tryz.func59 [.cell 2 41, .tmp 3] rfl<|Ri fun Z=>Bm hs rfl fun b1 M1 w1 hs1 hb1 e1=>?_
 have:=hs1.size
 have hT:=hT.t hs1
 have:=hT.size
 refine Al (.agg #[(.bool false),(.int .i64 0),(.int .i64 0),(.slice none 0 0)]) hs1.sat rfl fun br w2 hs2 hor er=>?_
 have:=hs2.size
 have:=hor.1.lt
 refine Na rfl Z<|cw_seq fun _ hK2=>Ri fun Z=>Qf 3 rfl<|Qc 1 rfl (BD hs2 hb1 rfl) ?_
 have hl:=hl.mono t5_ok hs1.le
 refine Ca rfl ((r9_size hs2.sat hl hz).mono ?_)
 rintro _ w3 ⟨rfl,hs3⟩
 have:=hs3.size
 refine Qq rfl (qEF rfl)<|Nx Z<|cw_false rfl<|cw_skip<|hK2 _ _<|Ri fun Z=>Qf 3 rfl<|Qc 1 rfl (BD hs3 hb1 rfl)<|Ca rfl ((r9_min hs3.sat hl ht O).mono ?_)
 rintro _ w4 ⟨rfl,hs4⟩
 have:=hs4.size
 refine Qm rfl<|Qe rfl<|Qe rfl ?_
 have hT:=hT.t hs2 |>.t hs3 |>.t hs4
 have:=hT.size
 refine Al (.agg #[(.int .i64 0),(.int .i64 0)]) hs4.sat rfl fun bx w5 hs5 hox ex=>?_
 have:=hs5.size
 have:=hox.1.lt
 refine St hs5.sat hox rfl fun w6 hs6 hox=>?_
 have:=hs6.size
 refine Nar rfl Z fun Z=>Qf 3 rfl<|Qc 1 rfl (BD hs6 hb1 rfl)<|Ca rfl ((r9_pop hs6.sat hl ht hz).mono ?_)
 rintro _ w7 ⟨nv,Mi,rfl,hs7,hn⟩
 obtain ⟨na,nc,rfl,_⟩:=hn.slice
 have:=hs7.size
 refine Qm rfl<|Qe rfl<|Qe rfl ?_
 have hT:=hT.t hs5 |>.o hs6 |>.t hs7
 have:=hT.size
 refine Al (.agg #[(.slice none 0 0)]) hs7.sat rfl fun bn w8 hs8 hon en=>?_
 have:=hs8.size
 have:=hon.1.lt
 refine St hs8.sat hon rfl fun w9 hs9 hon=>?_
 have:=hs9.size
 refine Nar rfl Z fun Z=>?_
 have hox:=hox.t hs7 |>.t hs8 |>.u hs9
 refine Qc 2 rfl (OD hox rfl)<|Qc 1 rfl (OD hon rfl)<|Qq rfl (q_build (zs:=[(.bool false),(.int .i64 0),(.int .i64 0),(.slice none 0 0)]) (places:=[(0,1),(1,2),(3,1)]) (cs:=[_,_,_,_]) V V rfl rfl)<|Qm rfl<|Qm rfl<|Qq rfl (q_addw rfl rfl)<|Qq rfl (q_addwi (b:=1) rfl rfl) ?_
 have hor:=hor.t hs3 |>.t hs4 |>.t hs5 |>.u hs6 |>.t hs7 |>.t hs8 |>.u hs9
 refine St hs9.sat hor rfl fun w10 hs10 hor=>?_
 have:=hs10.size
 refine Na rfl Z<|cw_ret ?_
 have hT:=hT.t hs8 |>.o hs9 |>.o hs10
 exact ⟨_,(Rc 4 rfl (OD hor rfl) (Rt rfl)),_,_,tup_eq rfl,hT,h10_mk hn⟩
end Go.Proofs.YtnnldppehojffaaGreat
/- The reference of pairing heaps, part 1. -/
namespace Go.Proofs.YtnnldppehojffaaGreat
open Go Go.Eng
variable {mb:Option Nat} {w:World} {M:Mem mb}
end Go.Proofs.YtnnldppehojffaaGreat
namespace Go.Eng
open Go
variable {mb:Option Nat} {w:World} {M:Mem mb}
mutual
def Pr.nn:Pr→Prop
 | .nil=>True
 | .node _ ks=>Pr.nns ks
def Pr.nns:List Pr→Prop
 | []=>True
 | k::r=>0<k.size∧k.nn∧Pr.nns r
end
theorem Pr.nns_length:∀ {l:List Pr},Pr.nns l→l.length≤Pr.sizes l
 | [],_=>Nat.zero_le _
 | k::r,h=>by
  unfold Pr.nns at h
  have:=Pr.nns_length h.2.2
  simp only [List.length_cons,Pr.sizes]
  omega
theorem Pr.meld_nn {a b:Pr} (ha:a.nn) (hb:b.nn):(a.meld b).nn:=by
 unfold Pr.meld
 split
 ·exact hb
 ·exact ha
 ·unfold Pr.nn at ha hb
  split <;> simp only [Pr.nn,Pr.nns,Pr.size] <;> exact ⟨by omega,by assumption,by assumption⟩
theorem Pr.insert_nn {x:El} {t:Pr} (h:t.nn):(t.insert x).nn:=Pr.meld_nn (by simp only [Pr.nn,Pr.nns]) h
theorem Pr.pair_nn:∀ {l:List Pr},Pr.nns l→(Pr.pair l).nn
 | [],_=>by simp only [Pr.pair,Pr.nn]
 | [a],h=>by simp only [Pr.nns] at h; simpa only [Pr.pair] using h.2.1
 | a::b::r,h=>by
  simp only [Pr.nns] at h
  simp only [Pr.pair]
  exact Pr.meld_nn (Pr.meld_nn h.2.1 h.2.2.2.1) (Pr.pair_nn h.2.2.2.2)
end Go.Eng
namespace Go.Proofs.YtnnldppehojffaaGreat
open Go Go.Eng
variable {mb:Option Nat} {w:World} {M:Mem mb}
theorem r8_meld_a {b:Pr} {ca cb:List Value} (hs:Sat M w) (ha:H8 M .nil ca) (hb:H8 M b cb):
  Dz 49 #[.agg ca.toArray, .agg cb.toArray] w (fun v w'=>∃ cv M',v = .tuple #[.agg cv.toArray,wv (0)]∧Step Nope M w M' w'∧H8 M' b cv):=by
 have hT:=hs.r
 obtain ⟨x,y,a,c,rfl⟩:=h8_nil.1 ha
 obtain ⟨_,_,_,_,_,rfl⟩:=hb.shape
 refine Fe Tryz.func49 [.cell 4 38, .tmp 5] rfl<|Ri fun Z=>Bm hs rfl fun b1 M1 w1 hs1 hb1 e1=>?_
 have:=hs1.size
 refine Bm hs1.sat rfl fun b2 M2 w2 hs2 hb2 e2=>?_
 have:=hs2.size
 have hT:=hT.t hs1 |>.t hs2
 have:=hT.size
 refine Al (.agg #[(.int .i64 0),(.int .i64 0),(.slice none 0 0),(.int .i64 0)]) hs2.sat rfl fun br w3 hs3 hor er=>?_
 have:=hs3.size
 have:=hor.1.lt
 refine Na rfl Z<|cw_seq fun _ hK2=>Ri fun Z=>Qf 3 rfl ?_
 have hb1:=hs2.le _ _ hb1
 refine Q1 rfl (BC hs3 hb1 rfl)<|Qq rfl (q_eqT rfl rfl (by simp))<|Nx Z<|cw_true rfl<|Ri fun Z=>Qc 4 rfl (BD hs3 hb2 rfl)<|St hs3.sat hor rfl fun w4 hs4 hor=>?_
 have:=hs4.size
 refine Na rfl Z<|cw_ret ?_
 have hb:=h8_ok.mono _ _ _ _ hs2.le (h8_ok.mono _ _ _ _ hs1.le hb)
 have hT:=hT.t hs3 |>.o hs4
 exact ⟨_,(Rc 4 rfl (OD hor rfl) (Rt rfl)),_,_,tup0,hT,hb⟩
theorem r8_meld_b {x:El} {ks:List Pr} {ca cb:List Value} (hs:Sat M w) (ha:H8 M (.node x ks) ca) (hb:H8 M .nil cb):
  Dz 49 #[.agg ca.toArray, .agg cb.toArray] w (fun v w'=>∃ cv M',v = .tuple #[.agg cv.toArray,wv (0)]∧Step Nope M w M' w'∧H8 M' (.node x ks) cv):=by
 have hT:=hs.r
 obtain ⟨x2,y2,a2,c2,rfl⟩:=h8_nil.1 hb
 obtain ⟨ka,kc,rfl,hK⟩:=h8_node.1 ha
 refine Fe Tryz.func49 [.cell 4 38, .tmp 5] rfl<|Ri fun Z=>Bm hs rfl fun b1 M1 w1 hs1 hb1 e1=>?_
 have:=hs1.size
 refine Bm hs1.sat rfl fun b2 M2 w2 hs2 hb2 e2=>?_
 have:=hs2.size
 have hT:=hT.t hs1 |>.t hs2
 have:=hT.size
 refine Al (.agg #[(.int .i64 0),(.int .i64 0),(.slice none 0 0),(.int .i64 0)]) hs2.sat rfl fun br w3 hs3 hor er=>?_
 have:=hs3.size
 have:=hor.1.lt
 refine Na rfl Z<|cw_seq fun _ hK2=>Ri fun Z=>Qf 3 rfl ?_
 have hb1:=hs2.le _ _ hb1
 refine Q1 rfl (BC hs3 hb1 rfl)<|Qq rfl (qEF rfl)<|Nx Z<|cw_false rfl<|cw_skip<|hK2 _ _<|cw_seq fun _ hK4=>Ri fun Z=>Qf 3 rfl<|Q1 rfl (BC hs3 hb2 rfl)<|Qq rfl (q_eqT rfl rfl (by simp))<|Nx Z<|cw_true rfl<|Ri fun Z=>Qc 4 rfl (BD hs3 hb1 rfl)<|St hs3.sat hor rfl fun w4 hs4 hor=>?_
 have:=hs4.size
 refine Na rfl Z<|cw_ret ?_
 have ha:=h8_ok.mono _ _ _ _ hs2.le (h8_ok.mono _ _ _ _ hs1.le ha)
 have hT:=hT.t hs3 |>.o hs4
 exact ⟨_,(Rc 4 rfl (OD hor rfl) (Rt rfl)),_,_,tup0,hT,ha⟩
theorem r8_meld_c {x y:El} {ks ms:List Pr} {ca cb:List Value} (hs:Sat M w) (ha:H8 M (.node x ks) ca) (hb:H8 M (.node y ms) cb) (hna:Pr.nns ks) (hnb:Pr.nns ms) (hz:(Pr.node x ks).size+(Pr.node y ms).size≤1000000000):
  Dz 49 #[.agg ca.toArray, .agg cb.toArray] w (fun v w'=>∃ cv M',v = .tuple #[.agg cv.toArray,wv (2)]∧Step Nope M w M' w'∧H8 M' ((Pr.node x ks).meld (.node y ms)) cv):=by
 have hT:=hs.r
 obtain ⟨ka,kc,rfl,hK⟩:=h8_node.1 ha
 obtain ⟨ka2,kc2,rfl,hkW⟩:=h8_node.1 hb
 simp only [Pr.size] at hz
 have hl1:=Pr.nns_length hna
 have hl2:=Pr.nns_length hnb
 refine Fe Tryz.func49 [.cell 4 38, .tmp 5] rfl<|Ri fun Z=>Bm hs rfl fun b1 M1 w1 hs1 hb1 e1=>?_
 have:=hs1.size
 refine Bm hs1.sat rfl fun b2 M2 w2 hs2 hb2 e2=>?_
 have:=hs2.size
 have hT:=hT.t hs1 |>.t hs2
 have:=hT.size
 refine Al (.agg #[(.int .i64 0),(.int .i64 0),(.slice none 0 0),(.int .i64 0)]) hs2.sat rfl fun br w3 hs3 hor er=>?_
 have:=hs3.size
 have:=hor.1.lt
 refine Na rfl Z<|cw_seq fun _ hK2=>Ri fun Z=>Qf 3 rfl ?_
 have hb1:=hs2.le _ _ hb1
 refine Q1 rfl (BC hs3 hb1 rfl)<|Qq rfl (qEF rfl)<|Nx Z<|cw_false rfl<|cw_skip<|hK2 _ _<|cw_seq fun _ hK4=>Ri fun Z=>Qf 3 rfl<|Q1 rfl (BC hs3 hb2 rfl)<|Qq rfl (qEF rfl)<|Nx Z<|cw_false rfl<|cw_skip<|hK4 _ _<|Ri fun Z=>Qc 4 rfl (BD hs3 hb1 rfl) ?_
 have hT:=hT.t hs3
 have:=hT.size
 refine Al (.agg #[(.int .i64 0),(.int .i64 0),(.slice none 0 0),(.int .i64 0)]) hs3.sat rfl fun bwi w4 hs4 howi ewi=>?_
 have:=hs4.size
 have:=howi.1.lt
 refine St hs4.sat howi rfl fun w5 hs5 howi=>?_
 have:=hs5.size
 refine Nr Z fun Z=>Qc 4 rfl (BD hs5 hb2 rfl) ?_
 have hT:=hT.t hs4 |>.o hs5
 have:=hT.size
 refine Al (.agg #[(.int .i64 0),(.int .i64 0),(.slice none 0 0),(.int .i64 0)]) hs5.sat rfl fun blo w6 hs6 holo elo=>?_
 have:=hs6.size
 have:=holo.1.lt
 refine St hs6.sat holo rfl fun w7 hs7 holo=>?_
 have:=hs7.size
 refine Nr Z fun Z=>Qf 0 rfl<|Qc 2 rfl (BD hs7 hb2 rfl)<|Qf 0 rfl<|Qc 2 rfl (BD hs7 hb1 rfl)<|Ca rfl ((ref_less (a:=y) (b:=x) hs7.sat).mono ?_)
 rintro _ w8 ⟨rfl,hs8⟩
 have:=hs8.size
 refine Na rfl Z<|cw_seq fun _ hK9=>Ri fun Z=>Qm rfl<|Nx Z ?_
 have ha:=h8_ok.mono _ _ _ _ hs2.le (h8_ok.mono _ _ _ _ hs1.le ha)
 have hb:=h8_ok.mono _ _ _ _ hs2.le (h8_ok.mono _ _ _ _ hs1.le hb)
 have hK:=hK.mono h8_ok hs1.le |>.mono h8_ok hs2.le
 have hkW:=hkW.mono h8_ok hs1.le |>.mono h8_ok hs2.le
 have hor:=hor.t hs4 |>.u hs5 |>.t hs6 |>.u hs7 |>.t hs8
 have howi:=howi.t hs6 |>.u hs7 |>.t hs8
 have hT:=hT.t hs6 |>.o hs7 |>.t hs8
 have holo:=holo.t hs8
 refine cw_cond rfl (fun hc2=>?_) (fun hc2=>?_)
 ·skip
  refine Ri fun Z=>Qc 4 rfl (BD hs8 hb2 rfl)<|St hs8.sat howi rfl fun w9 hs9 howi=>?_
  have:=hs9.size
  refine Nx Z<|cw_region fun _ Z=>Qc 4 rfl (BD hs9 hb1 rfl) ?_
  have holo:=holo.u hs9
  refine St hs9.sat holo rfl fun w10 hs10 holo=>?_
  have:=hs10.size
  refine as_nil (Z _ _ ?_)
  refine hK9 _ _<|Ri fun Z=>Qc 4 rfl (OD holo rfl)<|as_h rfl (h_buildO (e:=38) (size:=4) (zs:=[(.int .i64 0),(.int .i64 0),(.slice none 0 0),(.int .i64 0)]) (cs:=[_,_,_,_]) V V V rfl hs10.sat rfl rfl fun bK w11 hs11 hoK eK=>?_)
  have:=hs11.size
  have hlK:=hoK.1.lt
  refine Nar rfl Z fun Z=>Qm rfl<|Qf 2 rfl ?_
  have howi:=howi.u hs10 |>.t hs11
  refine Q1 rfl (OC howi rfl) ?_
  have hT:=hT.o hs9 |>.o hs10 |>.t hs11
  refine as_h rfl (h_cons h8_ok (e:=38) (bytes:=48) V hT hoK ha hkW rfl rfl (by have:=hz; omega) rfl O fun vk9 Mk9 w12 hT hle12 hown12 hz12 hk9=>?_)
  have ha:=h8_ok.mono _ _ _ _ hle12 ha
  have hb:=h8_ok.mono _ _ _ _ hle12 hb
  have hb1:=hle12 _ _ hb1
  have hb2:=hle12 _ _ hb2
  have hor:=hor.u hs9 |>.u hs10 |>.t hs11
  have hor:=hown12 _ _ _ O hor
  have howi:=hown12 _ _ _ O howi
  have holo:=holo.t hs11
  have holo:=hown12 _ _ _ O holo
  obtain ⟨ak9,ck9,rfl,_⟩:=hk9.slice
  refine Nar rfl Z fun Z=>Qf 0 rfl<|Qc 2 rfl (OD howi rfl)<|Qm rfl<|Qf 3 rfl<|Q1 rfl (BC hT hb1 rfl)<|Qf 3 rfl<|Q1 rfl (BC hT hb2 rfl)<|Qq rfl (qA rfl)<|Qq rfl (q_build (zs:=[(.int .i64 0),(.int .i64 0),(.slice none 0 0),(.int .i64 0)]) (places:=[(0,2),(2,1),(3,1)]) (cs:=[_,_,_,_]) V V rfl rfl)<|St hT.sat hor rfl fun w13 hs13 hor=>?_
  have:=hs13.size
  refine Na rfl Z<|cw_ret ?_
  have hT:=hT.o hs13
  exact ⟨_,(Rc 4 rfl (OD hor rfl) (Rt rfl)),_,_,tup2,hT,by rw [Pr.meld,if_pos hc2]; exact h8_mk (by simp only [Pr.sizes,Pr.size]; omega) hk9⟩
 ·skip
  refine cw_skip<|hK9 _ _<|Ri fun Z=>Qc 4 rfl (OD holo rfl)<|as_h rfl (h_buildO (e:=38) (size:=4) (zs:=[(.int .i64 0),(.int .i64 0),(.slice none 0 0),(.int .i64 0)]) (cs:=[_,_,_,_]) V V V rfl hs8.sat rfl rfl fun bK w14 hs14 hoK eK=>?_)
  have:=hs14.size
  have hlK:=hoK.1.lt
  refine Nar rfl Z fun Z=>Qm rfl<|Qf 2 rfl ?_
  have howi:=howi.t hs14
  refine Q1 rfl (OC howi rfl) ?_
  have hT:=hT.t hs14
  refine as_h rfl (h_cons h8_ok (e:=38) (bytes:=48) V hT hoK hb hK rfl rfl (by have:=hz; omega) rfl O fun vk9 Mk9 w15 hT hle15 hown15 hz15 hk9=>?_)
  have ha:=h8_ok.mono _ _ _ _ hle15 ha
  have hb:=h8_ok.mono _ _ _ _ hle15 hb
  have hb1:=hle15 _ _ hb1
  have hb2:=hle15 _ _ hb2
  have hor:=hor.t hs14
  have hor:=hown15 _ _ _ O hor
  have howi:=hown15 _ _ _ O howi
  have holo:=holo.t hs14
  have holo:=hown15 _ _ _ O holo
  obtain ⟨ak9,ck9,rfl,_⟩:=hk9.slice
  refine Nar rfl Z fun Z=>Qf 0 rfl<|Qc 2 rfl (OD howi rfl)<|Qm rfl<|Qf 3 rfl<|Q1 rfl (BC hT hb1 rfl)<|Qf 3 rfl<|Q1 rfl (BC hT hb2 rfl)<|Qq rfl (qA rfl)<|Qq rfl (q_build (zs:=[(.int .i64 0),(.int .i64 0),(.slice none 0 0),(.int .i64 0)]) (places:=[(0,2),(2,1),(3,1)]) (cs:=[_,_,_,_]) V V rfl rfl)<|St hT.sat hor rfl fun w16 hs16 hor=>?_
  have:=hs16.size
  refine Na rfl Z<|cw_ret ?_
  have hT:=hT.o hs16
  exact ⟨_,(Rc 4 rfl (OD hor rfl) (Rt rfl)),_,_,tup2,hT,by rw [Pr.meld,if_neg (by rw [hc2]; decide)]; exact h8_mk (by simp only [Pr.sizes,Pr.size]; omega) hk9⟩
theorem r8_meld {a b:Pr} {ca cb:List Value} (hs:Sat M w) (ha:H8 M a ca) (hb:H8 M b cb) (hna:a.nn) (hnb:b.nn) (hz:a.size+b.size≤1000000000):
  Dz 49 #[.agg ca.toArray, .agg cb.toArray] w (fun v w'=>∃ cv M',v = .tuple #[.agg cv.toArray,wv (a.meldC b)]∧Step Nope M w M' w'∧H8 M' (a.meld b) cv):=by
 cases a with
 | nil=>exact r8_meld_a hs ha hb
 | node x ks=>
  cases b with
  | nil=>exact r8_meld_b hs ha hb
  | node y ms=>simp only [Pr.nn] at hna hnb; exact r8_meld_c hs ha hb hna hnb hz
theorem r8_insert {x:El} {t:Pr} {cs:List Value} (hs:Sat M w) (h:H8 M t cs) (hn:t.nn) (hz:t.size<1000000000):
  Dz 43 #[.agg (elc x).toArray, .agg cs.toArray] w (fun v w'=>∃ cv M',v = .tuple #[.agg cv.toArray,wv (t.insertC x)]∧Step Nope M w M' w'∧H8 M' (t.insert x) cv):=by
 have hT:=hs.r
 obtain ⟨_,_,_,_,_,rfl⟩:=h.shape
 refine Fe Tryz.func43 [.cell 4 38, .tmp 5] rfl<|Ri fun Z=>Bm hs rfl fun b1 M1 w1 hs1 hb1 e1=>?_
 have:=hs1.size
 refine Bm hs1.sat rfl fun b2 M2 w2 hs2 hb2 e2=>?_
 have:=hs2.size
 have hT:=hT.t hs1 |>.t hs2
 have:=hT.size
 refine Al (.agg #[(.int .i64 0),(.int .i64 0),(.slice none 0 0),(.int .i64 0)]) hs2.sat rfl fun br w3 hs3 hor er=>?_
 have:=hs3.size
 have:=hor.1.lt
 refine Nar rfl Z fun Z=>?_
 have hb1:=hs2.le _ _ hb1
 refine Qc 2 rfl (BD hs3 hb1 rfl)<|Qq rfl (q_build (zs:=[(.int .i64 0),(.int .i64 0),(.slice none 0 0),(.int .i64 0)]) (places:=[(0,2),(2,1),(3,1)]) (cs:=[_,_,_,_]) V V rfl rfl)<|Qc 4 rfl (BD hs3 hb2 rfl) ?_
 have h:=h8_ok.mono _ _ _ _ hs2.le (h8_ok.mono _ _ _ _ hs1.le h)
 refine Ca rfl ((r8_meld (a:= .node x []) hs3.sat (h8_mk rfl Row.none) h (by simp only [Pr.nn,Pr.nns]) hn (by simp only [Pr.size,Pr.sizes]; omega)).mono ?_)
 rintro _ w4 ⟨cm,Mm,rfl,hs4,hm⟩
 obtain ⟨x3,y3,a3,n3,c3,rfl⟩:=hm.shape
 have:=hs4.size
 refine Qm rfl<|Qe rfl<|Qe rfl ?_
 have hT:=hT.t hs3 |>.t hs4
 have:=hT.size
 refine Al (.agg #[(.int .i64 0),(.int .i64 0),(.slice none 0 0),(.int .i64 0)]) hs4.sat rfl fun bg w5 hs5 hog eg=>?_
 have:=hs5.size
 have:=hog.1.lt
 refine St hs5.sat hog rfl fun w6 hs6 hog=>?_
 have h:=h8_ok.mono _ _ _ _ hs4.le h
 have:=hs6.size
 refine Nar rfl Z fun Z=>Qc 4 rfl (OD hog rfl)<|Qm rfl<|Qq rfl (q_addwi (b:=1) rfl rfl) ?_
 have hor:=hor.t hs4 |>.t hs5 |>.u hs6
 refine St hs6.sat hor rfl fun w7 hs7 hor=>?_
 have:=hs7.size
 refine Na rfl Z<|cw_ret ?_
 have hT:=hT.t hs5 |>.o hs6 |>.o hs7
 exact ⟨_,(Rc 4 rfl (OD hor rfl) (Rt rfl)),_,_,tup_eq (Nat.add_comm _ _),hT,hm⟩
theorem r8_pair_0 {lv:Value} (hs:Sat M w) (hl:Row H8 4 M [] lv):
  Dz 90 #[lv] w (fun v w'=>∃ cv M',v = .tuple #[.agg cv.toArray,wv (0)]∧Step Nope M w M' w'∧H8 M' .nil cv):=by
 have hT:=hs.r
 obtain ⟨la,lc,rfl,_⟩:=hl.slice
 refine Fe Tryz.func90 [.cell 2 38, .tmp 3] rfl<|Ri fun Z=>?_
 have:=hT.size
 refine Al (.agg #[(.int .i64 0),(.int .i64 0),(.slice none 0 0),(.int .i64 0)]) hs rfl fun br w1 hs1 hor er=>?_
 have:=hs1.size
 have:=hor.1.lt
 refine Na rfl Z<|cw_seq fun _ hK2=>Ri fun Z=>Qm rfl<|Qq rfl (ql rfl)<|Qq rfl (q_eqT rfl rfl (by simp))<|Nx Z<|cw_true rfl<|Ri fun Z=>Qq rfl (q_build (zs:=[(.int .i64 0),(.int .i64 0),(.slice none 0 0),(.int .i64 0)]) (places:=[(0,2),(2,1),(3,1)]) (cs:=[_,_,_,_]) V V rfl rfl)<|St hs1.sat hor rfl fun w2 hs2 hor=>?_
 have:=hs2.size
 refine Na rfl Z<|cw_ret ?_
 have hT:=hT.t hs1 |>.o hs2
 exact ⟨_,(Rc 4 rfl (OD hor rfl) (Rt rfl)),_,_,tup0,hT,h8_nil.2 ⟨_,_,_,_,rfl⟩⟩
theorem r8_pair_1 {a:Pr} {lv:Value} (hs:Sat M w) (hl:Row H8 4 M [a] lv):
  Dz 90 #[lv] w (fun v w'=>∃ cv M',v = .tuple #[.agg cv.toArray,wv (0)]∧Step Nope M w M' w'∧H8 M' a cv):=by
 have hT:=hs.r
 obtain ⟨la,lc,rfl,_⟩:=hl.slice
 have hlc:[a].length=1:=rfl
 obtain ⟨g,o,fc,e_,_,hf,hat⟩:=hl.get h8_ok (i:=0) (t:=a) rfl
 cases e_
 obtain ⟨fx,fy,fa,fn,fcc,rfl⟩:=hf.shape
 refine Fe Tryz.func90 [.cell 2 38, .tmp 3] rfl<|Ri fun Z=>?_
 have:=hT.size
 refine Al (.agg #[(.int .i64 0),(.int .i64 0),(.slice none 0 0),(.int .i64 0)]) hs rfl fun br w1 hs1 hor er=>?_
 have:=hs1.size
 have:=hor.1.lt
 refine Na rfl Z<|cw_seq fun _ hK2=>Ri fun Z=>Qm rfl<|Qq rfl (ql rfl)<|Qq rfl (q_eqF rfl rfl (by simp))<|Nx Z<|cw_false rfl<|cw_skip<|hK2 _ _<|cw_seq fun _ hK4=>Ri fun Z=>Qm rfl<|Qq rfl (ql rfl)<|Qq rfl (q_eqT rfl rfl (by simp))<|Nx Z<|cw_true rfl<|Ri fun Z=>Qm rfl<|Qq rfl (qi 38 4 rfl) ?_
 have hT:=hT.t hs1
 refine Qc 4 rfl (hat _ _ hT.le hT.sat)<|St hs1.sat hor rfl fun w2 hs2 hor=>?_
 have:=hs2.size
 refine Na rfl Z<|cw_ret ?_
 have hT:=hT.o hs2
 exact ⟨_,(Rc 4 rfl (OD hor rfl) (Rt rfl)),_,_,tup0,hT,hf⟩
theorem r8_pair_c {w:World} {M:Mem mb} {a b:Pr} {r:List Pr} {lv:Value} (ih:∀ {w:World} {M:Mem mb} {lv:Value},Sat M w→Row H8 4 M r lv→Pr.nns r→Pr.sizes r≤1000000000→Dz 90 #[lv] w (fun v w'=>∃ cv M',v = .tuple #[.agg cv.toArray,wv (Pr.pairC r)]∧Step Nope M w M' w'∧H8 M' (Pr.pair r) cv)) (hs:Sat M w) (hl:Row H8 4 M (a::b::r) lv) (hnn:Pr.nns (a::b::r)) (hz:Pr.sizes (a::b::r)≤1000000000):
  Dz 90 #[lv] w (fun v w'=>∃ cv M',v = .tuple #[.agg cv.toArray,wv (Pr.pairC (a::b::r))]∧Step Nope M w M' w'∧H8 M' (Pr.pair (a::b::r)) cv):=by
 have hT:=hs.r
 obtain ⟨la,lc,rfl,_⟩:=hl.slice
 have hlc:(a::b::r).length=r.length+2:=rfl
 simp only [Pr.nns] at hnn
 simp only [Pr.sizes] at hz
 obtain ⟨ga,oa,fca,ea_,_,hfa,hata⟩:=hl.get h8_ok (i:=0) (t:=a) rfl
 cases ea_
 obtain ⟨fxa,fya,faa,fna,fcca,rfl⟩:=hfa.shape
 obtain ⟨gb,ob,fcb,eb_,_,hfb,hatb⟩:=hl.get h8_ok (i:=1) (t:=b) rfl
 cases eb_
 obtain ⟨fxb,fyb,fab,fnb,fccb,rfl⟩:=hfb.shape
 refine Fe Tryz.func90 [.cell 2 38, .tmp 3] rfl<|Ri fun Z=>?_
 have:=hT.size
 refine Al (.agg #[(.int .i64 0),(.int .i64 0),(.slice none 0 0),(.int .i64 0)]) hs rfl fun br w1 hs1 hor er=>?_
 have:=hs1.size
 have:=hor.1.lt
 refine Na rfl Z<|cw_seq fun _ hK2=>Ri fun Z=>Qm rfl<|Qq rfl (ql rfl)<|Qq rfl (qEF rfl)<|Nx Z<|cw_false rfl<|cw_skip<|hK2 _ _<|cw_seq fun _ hK4=>Ri fun Z=>Qm rfl<|Qq rfl (ql rfl)<|Qq rfl (qEF rfl)<|Nx Z<|cw_false rfl<|cw_skip<|hK4 _ _ ?_
 have hT:=hT.t hs1
 have hcut2:=hT.size
 refine cw_rdS (fun l2 w2=>∃ (M2:Mem mb) (ba:Nat) (x3 y3:Int) (a3:Option Addr) (n3 c3:Nat),l2=[(0, .slice (some ⟨ga,oa,none⟩) (a::b::r).length lc),(2, .pointer (some ⟨br,0,none⟩)),(4, .pointer (some ⟨ba,0,none⟩)),(5,wv (a.meldC b))]∧Step Nope M w1 M2 w2∧Own w2 M2 ba [.int .i64 x3, .int .i64 y3, .slice a3 n3 c3, .int .i64 ((a.meld b).size:Nat)] 38∧w1.heap.size≤ba∧H8 M2 (a.meld b) [.int .i64 x3, .int .i64 y3, .slice a3 n3 c3, .int .i64 ((a.meld b).size:Nat)]) V V V rfl rfl ?_ ?_
 ·have hR:=Step.refl Nope hs1.sat
  have hs3:=Step.drew hs1.sat
  have:=hs3.size
  refine Gm 0 1 rfl<|Gq 1 3 rfl (fun _=>qi 38 4 rfl) ?_
  have hT:=hT.t hs3
  refine Gc 2 7 4 rfl (hata _ _ hT.le hT.sat)<|Gm 3 15 rfl<|Gq 4 31 rfl (fun _=>qi 38 4 rfl)<|Gc 5 63 4 rfl (hatb _ _ hT.le hT.sat) ?_
  have hor:=hor.t hs3
  have hR:=hR.t hs3
  refine at_two (i:=6) (j:=10) V ?_ ?_
  ·refine Gi 6 127 rfl (Ks [T,T]) (h_call V rfl ?_)
   refine (r8_meld hs3.sat hfa hfb hnn.2.1 hnn.2.2.2.1 O).mono ?_
   rintro _ w4 ⟨cm,Mm,rfl,hs4,hm⟩
   obtain ⟨x3,y3,a3,n3,c3,rfl⟩:=hm.shape
   have:=hs4.size
   refine ⟨trivial,?_⟩
   refine Gm 7 255 rfl<|Gq 8 511 rfl (fun _=>q_extract rfl rfl)<|Gq 9 1023 rfl (fun _=>q_extract rfl rfl) ?_
   have hT:=hT.t hs4
   have hqaa:=hT.size
   refine Gh 10 2047 rfl rfl (h_allocO (z:=(.agg #[(.int .i64 0),(.int .i64 0),(.slice none 0 0),(.int .i64 0)])) hs4.sat V rfl fun ba w5 hs5 hoa ea=>?_)
   have:=hs5.size
   have hla:=hoa.1.lt
   refine ⟨trivial,?_⟩
   refine G0 11 4095 rfl rfl (h_store hs5.sat hoa rfl rfl rfl V rfl rfl rfl fun w6 hs6 hn6=>?_)
   clear hoa; have hoa:=hn6; clear hn6
   have:=hs6.size
   refine ⟨trivial,?_⟩
   refine Ga 12 8191 rfl<|Dd V ?_
   have hR:=hR.t hs4 |>.t hs5 |>.o hs6
   exact ⟨_,(.cons rfl (.cons rfl (.cons rfl (.cons rfl (.nil _))))),_,_,_,_,_,_,_,rfl,hR,hoa,by omega,hm⟩
  ·have hqaa:=hT.size
   refine Gi 10 1087 rfl (Ks [F,F]) (h_allocO (z:=(.agg #[(.int .i64 0),(.int .i64 0),(.slice none 0 0),(.int .i64 0)])) hs3.sat V rfl fun ba w7 hs7 hoa ea=>?_)
   have:=hs7.size
   have hla:=hoa.1.lt
   have hor:=hor.t hs7
   have hT:=hT.t hs7
   have hR:=hR.t hs7
   refine ⟨(by repeat' first | exact trivial | exact (hata _ _ hT.le hT.sat) | exact (hatb _ _ hT.le hT.sat) | refine And.intro ?_ ?_),?_⟩
   refine Gh 6 1151 rfl (Ks [T,T]) (h_call V rfl ?_)
   refine (r8_meld hs7.sat hfa hfb hnn.2.1 hnn.2.2.2.1 O).mono ?_
   rintro _ w8 ⟨cm,Mm,rfl,hs8,hm⟩
   obtain ⟨x3,y3,a3,n3,c3,rfl⟩:=hm.shape
   have:=hs8.size
   refine ⟨trivial,?_⟩
   refine Gm 7 1279 rfl<|Gq 8 1535 rfl (fun _=>q_extract rfl rfl)<|Gq 9 2047 rfl (fun _=>q_extract rfl rfl) ?_
   have hoa:=hoa.t hs8
   refine G0 11 4095 rfl rfl (h_store hs8.sat hoa rfl rfl rfl V rfl rfl rfl fun w9 hs9 hn9=>?_)
   clear hoa; have hoa:=hn9; clear hn9
   have:=hs9.size
   refine ⟨trivial,?_⟩
   refine Ga 12 8191 rfl<|Dd V ?_
   have hR:=hR.t hs8 |>.o hs9
   exact ⟨_,(.cons rfl (.cons rfl (.cons rfl (.cons rfl (.nil _))))),_,_,_,_,_,_,_,rfl,hR,hoa,by omega,hm⟩
 rintro l2 w2 ⟨M2,ba,x3,y3,a3,n3,c3,rfl,hs2,hoa,hw2,hm⟩
 have:=hs2.size
 have hla:=hoa.1.lt
 refine Ri fun Z=>Qm rfl<|Qq rfl (q_slice (e:=38) (size:=4) (k':= .i64) V V rfl rfl rfl O O O) ?_
 have hl:=hl.mono h8_ok hs2.le
 refine Ca rfl ((ih hs2.sat ((hl.sub 2 ((a::b::r).length:Nat) O O O).cast (show _=r by rw [Int.toNat_natCast]; exact List.take_of_length_le (by simp))) hnn.2.2.2.2 O).mono ?_)
 rintro _ w10 ⟨cp,Mp,rfl,hs10,hp⟩
 obtain ⟨x4,y4,a4,n4,c4,rfl⟩:=hp.shape
 have:=hs10.size
 refine Qm rfl<|Qe rfl<|Qe rfl ?_
 have hT:=hT.t hs2 |>.t hs10
 have:=hT.size
 refine Al (.agg #[(.int .i64 0),(.int .i64 0),(.slice none 0 0),(.int .i64 0)]) hs10.sat rfl fun bb w11 hs11 hob eb=>?_
 have:=hs11.size
 have:=hob.1.lt
 refine St hs11.sat hob rfl fun w12 hs12 hob=>?_
 have:=hs12.size
 refine Nar rfl Z fun Z=>?_
 have hoa:=hoa.t hs10 |>.t hs11 |>.u hs12
 refine Qc 4 rfl (OD hoa rfl)<|Qc 4 rfl (OD hob rfl) ?_
 have hm:=h8_ok.mono _ _ _ _ hs10.le hm
 refine Ca rfl ((r8_meld hs12.sat hm hp (Pr.meld_nn hnn.2.1 hnn.2.2.2.1) (Pr.pair_nn hnn.2.2.2.2) (by rw [Pr.meld_size,Pr.pair_size]; omega)).mono ?_)
 rintro _ w13 ⟨cq,Mq,rfl,hs13,hq⟩
 obtain ⟨x5,y5,a5,n5,c5,rfl⟩:=hq.shape
 have:=hs13.size
 refine Qm rfl<|Qe rfl<|Qe rfl ?_
 have hT:=hT.t hs11 |>.o hs12 |>.t hs13
 have:=hT.size
 refine Al (.agg #[(.int .i64 0),(.int .i64 0),(.slice none 0 0),(.int .i64 0)]) hs13.sat rfl fun bc w14 hs14 hoc ec=>?_
 have:=hs14.size
 have hlc:=hoc.1.lt
 refine St hs14.sat hoc rfl fun w15 hs15 hoc=>?_
 have:=hs15.size
 refine Nar rfl Z fun Z=>Qc 4 rfl (OD hoc rfl)<|Qm rfl<|Qm rfl<|Qq rfl (q_addw rfl rfl)<|Qm rfl<|Qq rfl (q_addw rfl rfl) ?_
 have hor:=hor.t hs2 |>.t hs10 |>.t hs11 |>.u hs12 |>.t hs13 |>.t hs14 |>.u hs15
 refine St hs15.sat hor rfl fun w16 hs16 hor=>?_
 have:=hs16.size
 refine Na rfl Z<|cw_ret ?_
 have hT:=hT.t hs14 |>.o hs15 |>.o hs16
 exact ⟨_,(Rc 4 rfl (OD hor rfl) (Rt rfl)),_,_,tup_eq rfl,hT,hq⟩
theorem r8_pair:∀ {l:List Pr} {w:World} {M:Mem mb} {lv:Value},Sat M w→Row H8 4 M l lv→Pr.nns l→Pr.sizes l≤1000000000→Dz 90 #[lv] w (fun v w'=>∃ cv M',v = .tuple #[.agg cv.toArray,wv (Pr.pairC l)]∧Step Nope M w M' w'∧H8 M' (Pr.pair l) cv)
 | [],_,_,_,hs,h,_,_=>r8_pair_0 hs h
 | [_],_,_,_,hs,h,_,_=>r8_pair_1 hs h
 | _::_::_,_,_,_,hs,h,hn,hz=>r8_pair_c (fun hs h hn hz=>r8_pair hs h hn hz) hs h hn hz
theorem r8_pop {x:El} {ks:List Pr} {cs:List Value} (hs:Sat M w) (h:H8 M (.node x ks) cs) (hn:Pr.nns ks) (hz:(Pr.node x ks).size≤1000000000):
  Dz 57 #[.agg cs.toArray] w (fun v w'=>∃ cv M',v = .tuple #[.agg cv.toArray,wv (Pr.pairC ks)]∧Step Nope M w M' w'∧H8 M' (Pr.pair ks) cv):=by
 have hT:=hs.r
 obtain ⟨ka,kc,rfl,hK⟩:=h8_node.1 h
 refine Fe Tryz.func57 [.cell 2 38, .tmp 3] rfl<|Ri fun Z=>Bm hs rfl fun b1 M1 w1 hs1 hb1 e1=>?_
 have:=hs1.size
 have hT:=hT.t hs1
 have:=hT.size
 refine Al (.agg #[(.int .i64 0),(.int .i64 0),(.slice none 0 0),(.int .i64 0)]) hs1.sat rfl fun br w2 hs2 hor er=>?_
 have:=hs2.size
 have:=hor.1.lt
 refine Nar rfl Z fun Z=>Qf 2 rfl<|Q1 rfl (BC hs2 hb1 rfl) ?_
 have hK:=hK.mono h8_ok hs1.le
 refine Ca rfl ((r8_pair hs2.sat hK hn (by simp only [Pr.size] at hz; omega)).mono ?_)
 rintro _ w3 ⟨cp,Mp,rfl,hs3,hp⟩
 obtain ⟨x4,y4,a4,n4,c4,rfl⟩:=hp.shape
 have:=hs3.size
 refine Qe rfl<|Qe rfl ?_
 have hor:=hor.t hs3
 refine St hs3.sat hor rfl fun w4 hs4 hor=>?_
 have:=hs4.size
 refine Na rfl Z<|cw_ret ?_
 have hT:=hT.t hs2 |>.t hs3 |>.o hs4
 exact ⟨_,(Rc 4 rfl (OD hor rfl) (Rt rfl)),_,_,rfl,hT,hp⟩
theorem r8_min {x:El} {ks:List Pr} {cs:List Value} (hs:Sat M w) (h:H8 M (.node x ks) cs):
  Dz 73 #[.agg cs.toArray] w (fun v w'=>v = .tuple #[.agg (elc x).toArray,wv 0]∧Step Nope M w M w'):=by
 have hT:=hs.r
 obtain ⟨ka,kc,rfl,hK⟩:=h8_node.1 h
 refine Fe Tryz.func73 [.cell 2 29, .tmp 3] rfl<|Ri fun Z=>Bm hs rfl fun b1 M1 w1 hs1 hb1 e1=>?_
 have:=hs1.size
 have hT:=hT.t hs1
 have:=hT.size
 refine Al (.agg #[(.int .i64 0),(.int .i64 0)]) hs1.sat rfl fun br w2 hs2 hor er=>?_
 have:=hs2.size
 have:=hor.1.lt
 refine Nar rfl Z fun Z=>Qf 0 rfl<|Qc 2 rfl (BD hs2 hb1 rfl)<|St hs2.sat hor rfl fun w3 hs3 hor=>?_
 have:=hs3.size
 refine Na rfl Z<|cw_ret ?_
 have hT:=hT.t hs2 |>.o hs3
 exact ⟨_,(Rc 2 rfl (OD hor rfl) (Rt rfl)),tup0,hT.forget⟩
theorem r8_size {t:Pr} {cs:List Value} (hs:Sat M w) (h:H8 M t cs):
  Dz 67 #[.agg cs.toArray] w (fun v w'=>v = .int .i64 (t.size:Nat)∧Step Nope M w M w'):=by
 have hT:=hs.r
 obtain ⟨_,_,_,_,_,rfl⟩:=h.shape
 refine Fe Tryz.func67 [.tmp 2] rfl<|Ri fun Z=>Bm hs rfl fun b1 M1 w1 hs1 hb1 e1=>?_
 have:=hs1.size
 refine Nar rfl Z fun Z=>Qf 3 rfl<|Q1 rfl (BC hs1 hb1 rfl)<|Na rfl Z<|cw_ret ?_
 have hT:=hT.t hs1
 exact ⟨_,Rt rfl,rfl,hT.forget⟩
end Go.Proofs.YtnnldppehojffaaGreat
/- The reference of leftist heaps, part 1. -/
namespace Go.Proofs.YtnnldppehojffaaGreat
open Go Go.Eng
variable {mb:Option Nat} {w:World} {M:Mem mb}
theorem h6_rank_n {cs:List Value} (hs:Sat M w) (h:H6 M .nil cs):
  Dz 85 #[.agg cs.toArray] w (fun v w'=>v = .int .i64 (Lft.nil.rank:Nat)∧Step Nope M w M w'):=by
 have hT:=hs.r
 obtain ⟨x,y,a,c,rfl⟩:=h
 refine Fe Tryz.func85 [.tmp 2] rfl<|Ri fun Z=>Bm hs rfl fun b1 M1 w1 hs1 hb1 e1=>Na rfl Z<|cw_seq fun _ hK2=>Ri fun Z=>Qf 2 rfl<|Q1 rfl (BC hs1 hb1 rfl)<|Qq rfl (ql rfl)<|Qq rfl (q_eqT rfl rfl (by simp))<|Nx Z<|cw_true rfl<|Ri fun Z=>Na rfl Z<|cw_ret ?_
 have hT:=hT.t hs1
 exact ⟨_,Rt rfl,rfl,hT.forget⟩
theorem h6_rank_c {w:World} {M:Mem mb} {e:El} {l r:Lft} {cs:List Value} (ih:∀ {w:World} {M:Mem mb} {cs:List Value},Sat M w→H6 M r cs→Dz 85 #[.agg cs.toArray] w (fun v w'=>v = .int .i64 (r.rank:Nat)∧Step Nope M w M w')) (hr:r.rank≤1000000000) (hs:Sat M w) (h:H6 M (.node e l r) cs):
  Dz 85 #[.agg cs.toArray] w (fun v w'=>v = .int .i64 ((Lft.node e l r).rank:Nat)∧Step Nope M w M w'):=by
 have hT:=hs.r
 obtain ⟨a,c,rfl,hrow⟩:=h6_node.1 h
 obtain ⟨g,o,kc,rfl,_,hk,hat⟩:=hrow.get h6_ok (i:=1) (t:=r) rfl
 obtain ⟨x1,x2,a2,n2,c2,rfl⟩:=hk.shape
 refine Fe Tryz.func85 [.tmp 2] rfl<|Ri fun Z=>Bm hs rfl fun b1 M1 w1 hs1 hb1 e1=>Na rfl Z<|cw_seq fun _ hK2=>Ri fun Z=>Qf 2 rfl<|Q1 rfl (BC hs1 hb1 rfl)<|Qq rfl (ql rfl)<|Qq rfl (q_eqF rfl rfl (by simp))<|Nx Z<|cw_false rfl<|cw_skip<|hK2 _ _<|Ri fun Z=>Qf 2 rfl<|Q1 rfl (BC hs1 hb1 rfl)<|Qq rfl (qi 32 3 rfl) ?_
 have hT:=hT.t hs1
 refine Qc 3 rfl (hat _ _ hT.le hT.sat) ?_
 have hk:=h6_ok.mono _ _ _ _ hs1.le hk
 refine Ca rfl ((ih hs1.sat hk).mono ?_)
 rintro _ w2 ⟨rfl,hs2⟩
 refine Qq rfl (qA rfl)<|Na rfl Z<|cw_ret ?_
 have hT:=hT.t hs2
 exact ⟨_,Rt rfl,congrArg (Value.int .i64) (by rw [Lft.rank]; omega),hT.forget⟩
theorem h6_rank:∀ {t:Lft} {w:World} {M:Mem mb} {cs:List Value},Sat M w→H6 M t cs→t.rank≤1000000000→Dz 85 #[.agg cs.toArray] w (fun v w'=>v = .int .i64 (t.rank:Nat)∧Step Nope M w M w')
 | .nil,_,_,_,hs,h,_=>h6_rank_n hs h
 | .node _ _ r,_,_,_,hs,h,hz=>h6_rank_c (fun hs h=>h6_rank hs h (by rw [Lft.rank] at hz; omega)) (by rw [Lft.rank] at hz; omega) hs h
theorem h6_meld_a {b:Lft} {ca cb:List Value} (hs:Sat M w) (ha:H6 M .nil ca) (hb:H6 M b cb):
  Dz 47 #[.agg ca.toArray, .agg cb.toArray] w (fun v w'=>∃ cv M',v = .tuple #[.agg cv.toArray,wv (0)]∧Step Nope M w M' w'∧H6 M' b cv):=by
 have hT:=hs.r
 obtain ⟨x,y,a,c,rfl⟩:=ha
 obtain ⟨x2,y2,a2,n2,c2,rfl⟩:=hb.shape
 refine Fe Tryz.func47 [.cell 4 32, .tmp 5] rfl<|Ri fun Z=>Bm hs rfl fun b1 M1 w1 hs1 hb1 e1=>?_
 have:=hs1.size
 refine Bm hs1.sat rfl fun b2 M2 w2 hs2 hb2 e2=>?_
 have:=hs2.size
 have hT:=hT.t hs1 |>.t hs2
 have:=hT.size
 refine Al (.agg #[(.int .i64 0),(.int .i64 0),(.slice none 0 0)]) hs2.sat rfl fun br w3 hs3 hor er=>?_
 have:=hs3.size
 have:=hor.1.lt
 refine Na rfl Z<|cw_seq fun _ hK2=>Ri fun Z=>Qf 2 rfl ?_
 have hb1:=hs2.le _ _ hb1
 refine Q1 rfl (BC hs3 hb1 rfl)<|Qq rfl (ql rfl)<|Qq rfl (q_eqT rfl rfl (by simp))<|Nx Z<|cw_true rfl<|Ri fun Z=>Qc 3 rfl (BD hs3 hb2 rfl)<|St hs3.sat hor rfl fun w4 hs4 hor=>?_
 have:=hs4.size
 refine Na rfl Z<|cw_ret ?_
 have hb:=h6_ok.mono _ _ _ _ hs2.le (h6_ok.mono _ _ _ _ hs1.le hb)
 have hT:=hT.t hs3 |>.o hs4
 exact ⟨_,(Rc 3 rfl (OD hor rfl) (Rt rfl)),_,_,tup0,hT,hb⟩
theorem h6_meld_b {e:El} {l r:Lft} {ca cb:List Value} (hs:Sat M w) (ha:H6 M (.node e l r) ca) (hb:H6 M .nil cb):
  Dz 47 #[.agg ca.toArray, .agg cb.toArray] w (fun v w'=>∃ cv M',v = .tuple #[.agg cv.toArray,wv (0)]∧Step Nope M w M' w'∧H6 M' (.node e l r) cv):=by
 have hT:=hs.r
 obtain ⟨x,y,a,c,rfl⟩:=hb
 obtain ⟨a2,c2,rfl,_⟩:=h6_node.1 ha
 refine Fe Tryz.func47 [.cell 4 32, .tmp 5] rfl<|Ri fun Z=>Bm hs rfl fun b1 M1 w1 hs1 hb1 e1=>?_
 have:=hs1.size
 refine Bm hs1.sat rfl fun b2 M2 w2 hs2 hb2 e2=>?_
 have:=hs2.size
 have hT:=hT.t hs1 |>.t hs2
 have:=hT.size
 refine Al (.agg #[(.int .i64 0),(.int .i64 0),(.slice none 0 0)]) hs2.sat rfl fun br w3 hs3 hor er=>?_
 have:=hs3.size
 have:=hor.1.lt
 refine Na rfl Z<|cw_seq fun _ hK2=>Ri fun Z=>Qf 2 rfl ?_
 have hb1:=hs2.le _ _ hb1
 refine Q1 rfl (BC hs3 hb1 rfl)<|Qq rfl (ql rfl)<|Qq rfl (q_eqF rfl rfl (by simp))<|Nx Z<|cw_false rfl<|cw_skip<|hK2 _ _<|cw_seq fun _ hK4=>Ri fun Z=>Qf 2 rfl<|Q1 rfl (BC hs3 hb2 rfl)<|Qq rfl (ql rfl)<|Qq rfl (q_eqT rfl rfl (by simp))<|Nx Z<|cw_true rfl<|Ri fun Z=>Qc 3 rfl (BD hs3 hb1 rfl)<|St hs3.sat hor rfl fun w4 hs4 hor=>?_
 have:=hs4.size
 refine Na rfl Z<|cw_ret ?_
 have ha:=h6_ok.mono _ _ _ _ hs2.le (h6_ok.mono _ _ _ _ hs1.le ha)
 have hT:=hT.t hs3 |>.o hs4
 exact ⟨_,(Rc 3 rfl (OD hor rfl) (Rt rfl)),_,_,tup0,hT,ha⟩
def M6 (mb:Option Nat) (k:Nat):Prop:=∀ (w:World) (M:Mem mb) (a b:Lft) (ca cb:List Value),Sat M w→H6 M a ca→H6 M b cb→a.size+b.size<k→a.size+b.size≤1000000000→
  Dz 47 #[.agg ca.toArray, .agg cb.toArray] w (fun v w'=>∃ cv M',v = .tuple #[.agg cv.toArray,wv (a.meldC b)]∧Step Nope M w M' w'∧H6 M' (a.meld b) cv)
theorem h6_meld_c {w:World} {M:Mem mb} {x y:El} {l r l2 r2:Lft} {ca cb:List Value} {k:Nat} (ih:M6 mb k) (hs:Sat M w) (ha:H6 M (.node x l r) ca) (hb:H6 M (.node y l2 r2) cb) (hk:(Lft.node x l r).size+(Lft.node y l2 r2).size<k+1) (hz:(Lft.node x l r).size+(Lft.node y l2 r2).size≤1000000000):
  Dz 47 #[.agg ca.toArray, .agg cb.toArray] w (fun v w'=>∃ cv M',v = .tuple #[.agg cv.toArray,wv ((Lft.node x l r).meldC (.node y l2 r2))]∧Step Nope M w M' w'∧H6 M' ((Lft.node x l r).meld (.node y l2 r2)) cv):=by
 have hT:=hs.r
 obtain ⟨a1,c1,rfl,hrow⟩:=h6_node.1 ha
 obtain ⟨g1,o1,kl,rfl,_,hl,hatl⟩:=hrow.get h6_ok (i:=0) (t:=l) rfl
 obtain ⟨g1_,o1_,kr,e1_,_,hr,hatr⟩:=hrow.get h6_ok (i:=1) (t:=r) rfl
 cases e1_
 obtain ⟨lx,ly,la,ln,lc,rfl⟩:=hl.shape
 obtain ⟨rx,ry,ra,rn,rc,rfl⟩:=hr.shape
 obtain ⟨a2,c2,rfl,hrow2⟩:=h6_node.1 hb
 obtain ⟨g2,o2,kl2,rfl,_,hl2,hatl2⟩:=hrow2.get h6_ok (i:=0) (t:=l2) rfl
 obtain ⟨g2_,o2_,kr2,e2_,_,hr2,hatr2⟩:=hrow2.get h6_ok (i:=1) (t:=r2) rfl
 cases e2_
 obtain ⟨lx2,ly2,la2,ln2,lc2,rfl⟩:=hl2.shape
 obtain ⟨rx2,ry2,ra2,rn2,rc2,rfl⟩:=hr2.shape
 refine Fe Tryz.func47 [.cell 4 32, .tmp 5] rfl<|Ri fun Z=>Bm hs rfl fun b1 M1 w1 hs1 hb1 e1=>?_
 have:=hs1.size
 refine Bm hs1.sat rfl fun b2 M2 w2 hs2 hb2 e2=>?_
 have:=hs2.size
 have hT:=hT.t hs1 |>.t hs2
 have:=hT.size
 refine Al (.agg #[(.int .i64 0),(.int .i64 0),(.slice none 0 0)]) hs2.sat rfl fun br w3 hs3 hor er=>?_
 have:=hs3.size
 have:=hor.1.lt
 refine Na rfl Z<|cw_seq fun _ hK2=>Ri fun Z=>Qf 2 rfl ?_
 have hb1:=hs2.le _ _ hb1
 refine Q1 rfl (BC hs3 hb1 rfl)<|Qq rfl (ql rfl)<|Qq rfl (q_eqF rfl rfl (by simp))<|Nx Z<|cw_false rfl<|cw_skip<|hK2 _ _<|cw_seq fun _ hK4=>Ri fun Z=>Qf 2 rfl<|Q1 rfl (BC hs3 hb2 rfl)<|Qq rfl (ql rfl)<|Qq rfl (q_eqF rfl rfl (by simp))<|Nx Z<|cw_false rfl<|cw_skip<|hK4 _ _<|Ri fun Z=>Qc 3 rfl (BD hs3 hb1 rfl) ?_
 have hT:=hT.t hs3
 have:=hT.size
 refine Al (.agg #[(.int .i64 0),(.int .i64 0),(.slice none 0 0)]) hs3.sat rfl fun bwi w4 hs4 howi ewi=>?_
 have:=hs4.size
 have:=howi.1.lt
 refine St hs4.sat howi rfl fun w5 hs5 howi=>?_
 have:=hs5.size
 refine Nr Z fun Z=>Qc 3 rfl (BD hs5 hb2 rfl) ?_
 have hT:=hT.t hs4 |>.o hs5
 have:=hT.size
 refine Al (.agg #[(.int .i64 0),(.int .i64 0),(.slice none 0 0)]) hs5.sat rfl fun blo w6 hs6 holo elo=>?_
 have:=hs6.size
 have:=holo.1.lt
 refine St hs6.sat holo rfl fun w7 hs7 holo=>?_
 have:=hs7.size
 refine Nr Z fun Z=>Qf 0 rfl<|Qc 2 rfl (BD hs7 hb2 rfl)<|Qf 0 rfl<|Qc 2 rfl (BD hs7 hb1 rfl)<|Ca rfl ((ref_less (a:=y) (b:=x) hs7.sat).mono ?_)
 rintro _ w8 ⟨rfl,hs8⟩
 have:=hs8.size
 refine Na rfl Z<|cw_seq fun _ hK9=>Ri fun Z=>Qm rfl<|Nx Z ?_
 have ha:=h6_ok.mono _ _ _ _ hs2.le (h6_ok.mono _ _ _ _ hs1.le ha)
 have hb:=h6_ok.mono _ _ _ _ hs2.le (h6_ok.mono _ _ _ _ hs1.le hb)
 have hl:=h6_ok.mono _ _ _ _ hs2.le (h6_ok.mono _ _ _ _ hs1.le hl)
 have hr:=h6_ok.mono _ _ _ _ hs2.le (h6_ok.mono _ _ _ _ hs1.le hr)
 have hl2:=h6_ok.mono _ _ _ _ hs2.le (h6_ok.mono _ _ _ _ hs1.le hl2)
 have hr2:=h6_ok.mono _ _ _ _ hs2.le (h6_ok.mono _ _ _ _ hs1.le hr2)
 have hor:=hor.t hs4 |>.u hs5 |>.t hs6 |>.u hs7 |>.t hs8
 have howi:=howi.t hs6 |>.u hs7 |>.t hs8
 have hT:=hT.t hs6 |>.o hs7 |>.t hs8
 have holo:=holo.t hs8
 refine cw_cond rfl (fun hc2=>?_) (fun hc2=>?_)
 ·skip
  refine Ri fun Z=>Qc 3 rfl (BD hs8 hb2 rfl)<|St hs8.sat howi rfl fun w9 hs9 howi=>?_
  have:=hs9.size
  refine Nx Z<|cw_region fun _ Z=>Qc 3 rfl (BD hs9 hb1 rfl) ?_
  have holo:=holo.u hs9
  refine St hs9.sat holo rfl fun w10 hs10 holo=>?_
  have:=hs10.size
  refine as_nil (Z _ _ ?_)
  refine hK9 _ _ ?_
  have hT:=hT.o hs9 |>.o hs10
  have hcut11:=hT.size
  have hor:=hor.u hs9 |>.u hs10
  have howi:=howi.u hs10
  refine cw_rdS (fun l11 w11=>∃ (M11:Mem mb) (bri:Nat) (x3 y3:Int) (a3:Option Addr) (n3 c3:Nat),l11=[(2, .pointer (some ⟨b1,0,none⟩)),(3, .pointer (some ⟨b2,0,none⟩)),(4, .pointer (some ⟨br,0,none⟩)),(6, .pointer (some ⟨bwi,0,none⟩)),(7, .pointer (some ⟨blo,0,none⟩)),(9, .pointer (some ⟨bri,0,none⟩)),(10,wv (Lft.meldC r2 (.node x l r)))]∧Step Nope M2 w10 M11 w11∧Own w11 M11 bri [.int .i64 x3, .int .i64 y3, .slice a3 n3 c3] 32∧w10.heap.size≤bri∧H6 M11 (Lft.meld r2 (.node x l r)) [.int .i64 x3, .int .i64 y3, .slice a3 n3 c3]) V V V rfl rfl ?_ ?_
  ·have hR:=Step.refl Nope hs10.sat
   have hs12:=Step.drew hs10.sat
   have:=hs12.size
   refine Gf 0 1 2 rfl ?_
   have howi:=howi.t hs12
   refine G1 1 3 rfl (OC howi rfl)<|Gq 2 7 rfl (fun _=>qi 32 3 rfl) ?_
   have hT:=hT.t hs12
   refine Gc 3 15 3 rfl (hatr2 _ _ hT.le hT.sat) ?_
   have holo:=holo.t hs12
   refine Gc 4 31 3 rfl (OD holo rfl) ?_
   have hor:=hor.t hs12
   have hR:=hR.t hs12
   refine at_two (i:=5) (j:=9) V ?_ ?_
   ·refine Gi 5 63 rfl (Ks [T,T,F]) (h_call V rfl ?_)
    refine (ih _ _ _ _ _ _ hs12.sat hr2 ha (by simp only [Lft.size] at hk ⊢; omega) (by simp only [Lft.size] at hz ⊢; omega)).mono ?_
    rintro _ w13 ⟨cm,Mm,rfl,hs13,hm⟩
    obtain ⟨x3,y3,a3,n3,c3,rfl⟩:=hm.shape
    have:=hs13.size
    have ha:=h6_ok.mono _ _ _ _ hs13.le ha
    have hb:=h6_ok.mono _ _ _ _ hs13.le hb
    have hl:=h6_ok.mono _ _ _ _ hs13.le hl
    have hr:=h6_ok.mono _ _ _ _ hs13.le hr
    have hl2:=h6_ok.mono _ _ _ _ hs13.le hl2
    have hr2:=h6_ok.mono _ _ _ _ hs13.le hr2
    have hor:=hor.t hs13
    have howi:=howi.t hs13
    have holo:=holo.t hs13
    have hT:=hT.t hs13
    have hR:=hR.t hs13
    refine ⟨(by repeat' first | exact trivial | exact OC howi rfl | refine And.intro ?_ ?_),?_⟩
    refine Gm 6 127 rfl<|Gq 7 255 rfl (fun _=>q_extract rfl rfl)<|Gq 8 511 rfl (fun _=>q_extract rfl rfl) ?_
    have hqari:=hT.size
    refine Gh 9 1023 rfl (Ks [F]) (h_allocO (z:=(.agg #[(.int .i64 0),(.int .i64 0),(.slice none 0 0)])) hs13.sat V rfl fun bri w14 hs14 hori eri=>?_)
    have:=hs14.size
    have hlri:=hori.1.lt
    have hor:=hor.t hs14
    have howi:=howi.t hs14
    have holo:=holo.t hs14
    have hT:=hT.t hs14
    have hR:=hR.t hs14
    refine ⟨(by repeat' first | exact trivial | exact OC howi rfl | refine And.intro ?_ ?_),?_⟩
    refine G0 10 2047 rfl (Ks [T]) (h_store hs14.sat hori rfl rfl rfl V rfl rfl rfl fun w15 hs15 hn15=>?_)
    clear hori; have hori:=hn15; clear hn15
    have:=hs15.size
    refine ⟨trivial,?_⟩
    refine Ga 11 4095 rfl<|Dd V ?_
    have hR:=hR.o hs15
    exact ⟨_,(.cons rfl (.cons rfl (.cons rfl (.cons rfl (.cons rfl (.cons rfl (.cons rfl (.nil _)))))))),_,_,_,_,_,_,_,rfl,hR,hori,by omega,hm⟩
   ·have hqari:=hT.size
    refine Gi 9 543 rfl (Ks [F,F,F]) (h_allocO (z:=(.agg #[(.int .i64 0),(.int .i64 0),(.slice none 0 0)])) hs12.sat V rfl fun bri w16 hs16 hori eri=>?_)
    have:=hs16.size
    have hlri:=hori.1.lt
    have hor:=hor.t hs16
    have howi:=howi.t hs16
    have holo:=holo.t hs16
    have hT:=hT.t hs16
    have hR:=hR.t hs16
    refine ⟨(by repeat' first | exact trivial | exact OC howi rfl | exact OD holo rfl | exact (hatr2 _ _ hT.le hT.sat) | refine And.intro ?_ ?_),?_⟩
    refine Gh 5 575 rfl (Ks [T,T,F]) (h_call V rfl ?_)
    refine (ih _ _ _ _ _ _ hs16.sat hr2 ha (by simp only [Lft.size] at hk ⊢; omega) (by simp only [Lft.size] at hz ⊢; omega)).mono ?_
    rintro _ w17 ⟨cm,Mm,rfl,hs17,hm⟩
    obtain ⟨x3,y3,a3,n3,c3,rfl⟩:=hm.shape
    have:=hs17.size
    have hb:=h6_ok.mono _ _ _ _ hs17.le hb
    have hl:=h6_ok.mono _ _ _ _ hs17.le hl
    have hr:=h6_ok.mono _ _ _ _ hs17.le hr
    have hl2:=h6_ok.mono _ _ _ _ hs17.le hl2
    have hor:=hor.t hs17
    have howi:=howi.t hs17
    have holo:=holo.t hs17
    have hori:=hori.t hs17
    have hT:=hT.t hs17
    have hR:=hR.t hs17
    refine ⟨(by repeat' first | exact trivial | exact OC howi rfl | refine And.intro ?_ ?_),?_⟩
    refine Gm 6 639 rfl<|Gq 7 767 rfl (fun _=>q_extract rfl rfl)<|Gq 8 1023 rfl (fun _=>q_extract rfl rfl)<|G0 10 2047 rfl (Ks [T]) (h_store hs17.sat hori rfl rfl rfl V rfl rfl rfl fun w18 hs18 hn18=>?_)
    clear hori; have hori:=hn18; clear hn18
    have:=hs18.size
    refine ⟨trivial,?_⟩
    refine Ga 11 4095 rfl<|Dd V ?_
    have hR:=hR.o hs18
    exact ⟨_,(.cons rfl (.cons rfl (.cons rfl (.cons rfl (.cons rfl (.cons rfl (.cons rfl (.nil _)))))))),_,_,_,_,_,_,_,rfl,hR,hori,by omega,hm⟩
  rintro l11 w11 ⟨M11,bri,x3,y3,a3,n3,c3,rfl,hs11,hori,hw11,hm⟩
  have:=hs11.size
  have hlri:=hori.1.lt
  refine Ri fun Z=>Qf 2 rfl ?_
  have howi:=howi.t hs11
  refine Q1 rfl (OC howi rfl)<|Qq rfl (qi 32 3 rfl) ?_
  have hT:=hT.t hs11
  refine Qc 3 rfl (hatl2 _ _ hT.le hT.sat) ?_
  have hqale:=hT.size
  refine Al (.agg #[(.int .i64 0),(.int .i64 0),(.slice none 0 0)]) hs11.sat rfl fun ble w19 hs19 hole ele=>?_
  have:=hs19.size
  have hlle:=hole.1.lt
  refine St hs19.sat hole rfl fun w20 hs20 hole=>?_
  have:=hs20.size
  refine Nx Z<|cw_seq fun _ hK15=>Rv fun Z=>?_
  have hs21:=Step.drew hs20.sat
  have:=hs21.size
  have hole:=hole.t hs21
  refine Gc 0 1 3 rfl (OD hole rfl) ?_
  have hori:=hori.t hs19 |>.u hs20 |>.t hs21
  refine Gc 2 5 3 rfl (OD hori rfl)<|Gh 1 7 rfl (Ks [F,T]) (h_call V rfl ?_)
  have hl2:=h6_ok.mono _ _ _ _ hs11.le hl2
  refine (h6_rank hs21.sat hl2 (by have:=Lft.rank_le l2; simp only [Lft.size] at hz; omega)).mono ?_
  rintro _ w22 ⟨rfl,hs22⟩
  have:=hs22.size
  have hb:=h6_ok.mono _ _ _ _ hs11.le hb
  have hl:=h6_ok.mono _ _ _ _ hs11.le hl
  have hr:=h6_ok.mono _ _ _ _ hs11.le hr
  have hor:=hor.t hs11 |>.t hs19 |>.u hs20 |>.t hs21 |>.t hs22
  have holo:=holo.t hs11 |>.t hs19 |>.u hs20 |>.t hs21 |>.t hs22
  have howi:=howi.t hs19 |>.u hs20 |>.t hs21 |>.t hs22
  have hT:=hT.t hs19 |>.o hs20 |>.t hs21 |>.t hs22
  have hori:=hori.t hs22
  have hole:=hole.t hs22
  refine ⟨(by repeat' first | exact trivial | exact OD hori rfl | refine And.intro ?_ ?_),?_⟩
  refine Gh 3 15 rfl (Ks [T]) (h_call V rfl ?_)
  refine (h6_rank hs22.sat hm (by have:=Lft.rank_le (Lft.meld r2 (.node x l r)); rw [Lft.meld_size] at this; simp only [Lft.size] at hz this; omega)).mono ?_
  rintro _ w23 ⟨rfl,hs23⟩
  have:=hs23.size
  refine ⟨trivial,?_⟩
  refine Gq 4 31 rfl (fun _=>q_lt rfl rfl)<|Dx Z ?_
  have hor:=hor.t hs23
  have howi:=howi.t hs23
  have holo:=holo.t hs23
  have hori:=hori.t hs23
  have hole:=hole.t hs23
  have hT:=hT.t hs23
  refine cw_cond rfl (fun hc3=>?_) (fun hc3=>?_)
  ·have hc3:=of_decide_eq_true hc3
   refine Ri fun Z=>Qf 0 rfl<|Qc 2 rfl (OD howi rfl)<|Qc 3 rfl (OD hori rfl)<|Qc 3 rfl (OD hole rfl)<|as_h rfl (h_buildM (e:=32) (size:=3) (zs:=[(.int .i64 0),(.int .i64 0),(.slice none 0 0),(.int .i64 0),(.int .i64 0),(.slice none 0 0)]) (cs:=[_,_,_,_,_,_]) V V V rfl hs23.sat rfl rfl rfl fun bk Mk w24 hs24 hrk ek=>?_)
   have:=hs24.size
   refine Qq rfl (q_build (zs:=[(.int .i64 0),(.int .i64 0),(.slice none 0 0)]) (places:=[(0,2),(2,1)]) (cs:=[_,_,_]) V V rfl rfl)<|Qm rfl<|Qq rfl (q_addw (b:=2) rfl rfl) ?_
   have hor:=hor.t hs24
   refine St hs24.sat hor rfl fun w25 hs25 hor=>?_
   have:=hs25.size
   refine Na rfl Z<|cw_ret ?_
   have hl2:=h6_ok.mono _ _ _ _ hs24.le hl2
   have hm:=h6_ok.mono _ _ _ _ hs24.le hm
   have hT:=hT.t hs24 |>.o hs25
   exact ⟨_,(Rc 3 rfl (OD hor rfl) (Rt rfl)),_,_,tup_eq (by rw [Lft.meldC,if_pos hc2]; omega),hT,by rw [Lft.meld,if_pos hc2,Lft.mk,if_pos O]; exact ⟨_,_,_,_,rfl,hrk,hm,hl2⟩⟩
  ·have hc3:=of_decide_eq_false hc3
   refine cw_skip<|hK15 _ _<|Ri fun Z=>Qf 0 rfl<|Qc 2 rfl (OD howi rfl)<|Qc 3 rfl (OD hole rfl)<|Qc 3 rfl (OD hori rfl)<|as_h rfl (h_buildM (e:=32) (size:=3) (zs:=[(.int .i64 0),(.int .i64 0),(.slice none 0 0),(.int .i64 0),(.int .i64 0),(.slice none 0 0)]) (cs:=[_,_,_,_,_,_]) V V V rfl hs23.sat rfl rfl rfl fun bk Mk w26 hs26 hrk ek=>?_)
   have:=hs26.size
   refine Qq rfl (q_build (zs:=[(.int .i64 0),(.int .i64 0),(.slice none 0 0)]) (places:=[(0,2),(2,1)]) (cs:=[_,_,_]) V V rfl rfl)<|Qm rfl<|Qq rfl (q_addw (b:=2) rfl rfl) ?_
   have hor:=hor.t hs26
   refine St hs26.sat hor rfl fun w27 hs27 hor=>?_
   have:=hs27.size
   refine Na rfl Z<|cw_ret ?_
   have hl2:=h6_ok.mono _ _ _ _ hs26.le hl2
   have hm:=h6_ok.mono _ _ _ _ hs26.le hm
   have hT:=hT.t hs26 |>.o hs27
   exact ⟨_,(Rc 3 rfl (OD hor rfl) (Rt rfl)),_,_,tup_eq (by rw [Lft.meldC,if_pos hc2]; omega),hT,by rw [Lft.meld,if_pos hc2,Lft.mk,if_neg O]; exact ⟨_,_,_,_,rfl,hrk,hl2,hm⟩⟩
 ·skip
  refine cw_skip<|hK9 _ _ ?_
  have hcut28:=hT.size
  refine cw_rdS (fun l28 w28=>∃ (M28:Mem mb) (bri:Nat) (x3 y3:Int) (a3:Option Addr) (n3 c3:Nat),l28=[(2, .pointer (some ⟨b1,0,none⟩)),(3, .pointer (some ⟨b2,0,none⟩)),(4, .pointer (some ⟨br,0,none⟩)),(6, .pointer (some ⟨bwi,0,none⟩)),(7, .pointer (some ⟨blo,0,none⟩)),(9, .pointer (some ⟨bri,0,none⟩)),(10,wv (Lft.meldC r (.node y l2 r2)))]∧Step Nope M2 w8 M28 w28∧Own w28 M28 bri [.int .i64 x3, .int .i64 y3, .slice a3 n3 c3] 32∧w8.heap.size≤bri∧H6 M28 (Lft.meld r (.node y l2 r2)) [.int .i64 x3, .int .i64 y3, .slice a3 n3 c3]) V V V rfl rfl ?_ ?_
  ·have hR:=Step.refl Nope hs8.sat
   have hs29:=Step.drew hs8.sat
   have:=hs29.size
   refine Gf 0 1 2 rfl ?_
   have howi:=howi.t hs29
   refine G1 1 3 rfl (OC howi rfl)<|Gq 2 7 rfl (fun _=>qi 32 3 rfl) ?_
   have hT:=hT.t hs29
   refine Gc 3 15 3 rfl (hatr _ _ hT.le hT.sat) ?_
   have holo:=holo.t hs29
   refine Gc 4 31 3 rfl (OD holo rfl) ?_
   have hor:=hor.t hs29
   have hR:=hR.t hs29
   refine at_two (i:=5) (j:=9) V ?_ ?_
   ·refine Gi 5 63 rfl (Ks [T,T,F]) (h_call V rfl ?_)
    refine (ih _ _ _ _ _ _ hs29.sat hr hb (by simp only [Lft.size] at hk ⊢; omega) (by simp only [Lft.size] at hz ⊢; omega)).mono ?_
    rintro _ w30 ⟨cm,Mm,rfl,hs30,hm⟩
    obtain ⟨x3,y3,a3,n3,c3,rfl⟩:=hm.shape
    have:=hs30.size
    have hb:=h6_ok.mono _ _ _ _ hs30.le hb
    have hl:=h6_ok.mono _ _ _ _ hs30.le hl
    have hr:=h6_ok.mono _ _ _ _ hs30.le hr
    have hor:=hor.t hs30
    have howi:=howi.t hs30
    have holo:=holo.t hs30
    have hT:=hT.t hs30
    have hR:=hR.t hs30
    refine ⟨(by repeat' first | exact trivial | exact OC howi rfl | refine And.intro ?_ ?_),?_⟩
    refine Gm 6 127 rfl<|Gq 7 255 rfl (fun _=>q_extract rfl rfl)<|Gq 8 511 rfl (fun _=>q_extract rfl rfl) ?_
    have hqari:=hT.size
    refine Gh 9 1023 rfl (Ks [F]) (h_allocO (z:=(.agg #[(.int .i64 0),(.int .i64 0),(.slice none 0 0)])) hs30.sat V rfl fun bri w31 hs31 hori eri=>?_)
    have:=hs31.size
    have hlri:=hori.1.lt
    have hor:=hor.t hs31
    have howi:=howi.t hs31
    have holo:=holo.t hs31
    have hT:=hT.t hs31
    have hR:=hR.t hs31
    refine ⟨(by repeat' first | exact trivial | exact OC howi rfl | refine And.intro ?_ ?_),?_⟩
    refine G0 10 2047 rfl (Ks [T]) (h_store hs31.sat hori rfl rfl rfl V rfl rfl rfl fun w32 hs32 hn32=>?_)
    clear hori; have hori:=hn32; clear hn32
    have:=hs32.size
    refine ⟨trivial,?_⟩
    refine Ga 11 4095 rfl<|Dd V ?_
    have hR:=hR.o hs32
    exact ⟨_,(.cons rfl (.cons rfl (.cons rfl (.cons rfl (.cons rfl (.cons rfl (.cons rfl (.nil _)))))))),_,_,_,_,_,_,_,rfl,hR,hori,by omega,hm⟩
   ·have hqari:=hT.size
    refine Gi 9 543 rfl (Ks [F,F,F]) (h_allocO (z:=(.agg #[(.int .i64 0),(.int .i64 0),(.slice none 0 0)])) hs29.sat V rfl fun bri w33 hs33 hori eri=>?_)
    have:=hs33.size
    have hlri:=hori.1.lt
    have hor:=hor.t hs33
    have howi:=howi.t hs33
    have holo:=holo.t hs33
    have hT:=hT.t hs33
    have hR:=hR.t hs33
    refine ⟨(by repeat' first | exact trivial | exact OC howi rfl | exact OD holo rfl | exact (hatr _ _ hT.le hT.sat) | refine And.intro ?_ ?_),?_⟩
    refine Gh 5 575 rfl (Ks [T,T,F]) (h_call V rfl ?_)
    refine (ih _ _ _ _ _ _ hs33.sat hr hb (by simp only [Lft.size] at hk ⊢; omega) (by simp only [Lft.size] at hz ⊢; omega)).mono ?_
    rintro _ w34 ⟨cm,Mm,rfl,hs34,hm⟩
    obtain ⟨x3,y3,a3,n3,c3,rfl⟩:=hm.shape
    have:=hs34.size
    have hl:=h6_ok.mono _ _ _ _ hs34.le hl
    have hor:=hor.t hs34
    have howi:=howi.t hs34
    have hori:=hori.t hs34
    have hT:=hT.t hs34
    have hR:=hR.t hs34
    refine ⟨(by repeat' first | exact trivial | exact OC howi rfl | refine And.intro ?_ ?_),?_⟩
    refine Gm 6 639 rfl<|Gq 7 767 rfl (fun _=>q_extract rfl rfl)<|Gq 8 1023 rfl (fun _=>q_extract rfl rfl)<|G0 10 2047 rfl (Ks [T]) (h_store hs34.sat hori rfl rfl rfl V rfl rfl rfl fun w35 hs35 hn35=>?_)
    clear hori; have hori:=hn35; clear hn35
    have:=hs35.size
    refine ⟨trivial,?_⟩
    refine Ga 11 4095 rfl<|Dd V ?_
    have hR:=hR.o hs35
    exact ⟨_,(.cons rfl (.cons rfl (.cons rfl (.cons rfl (.cons rfl (.cons rfl (.cons rfl (.nil _)))))))),_,_,_,_,_,_,_,rfl,hR,hori,by omega,hm⟩
  rintro l28 w28 ⟨M28,bri,x3,y3,a3,n3,c3,rfl,hs28,hori,hw28,hm⟩
  have:=hs28.size
  have hlri:=hori.1.lt
  refine Ri fun Z=>Qf 2 rfl ?_
  have howi:=howi.t hs28
  refine Q1 rfl (OC howi rfl)<|Qq rfl (qi 32 3 rfl) ?_
  have hT:=hT.t hs28
  refine Qc 3 rfl (hatl _ _ hT.le hT.sat) ?_
  have hqale:=hT.size
  refine Al (.agg #[(.int .i64 0),(.int .i64 0),(.slice none 0 0)]) hs28.sat rfl fun ble w36 hs36 hole ele=>?_
  have:=hs36.size
  have hlle:=hole.1.lt
  refine St hs36.sat hole rfl fun w37 hs37 hole=>?_
  have:=hs37.size
  refine Nx Z<|cw_seq fun _ hK21=>Rv fun Z=>?_
  have hs38:=Step.drew hs37.sat
  have:=hs38.size
  have hole:=hole.t hs38
  refine Gc 0 1 3 rfl (OD hole rfl) ?_
  have hori:=hori.t hs36 |>.u hs37 |>.t hs38
  refine Gc 2 5 3 rfl (OD hori rfl)<|Gh 1 7 rfl (Ks [F,T]) (h_call V rfl ?_)
  have hl:=h6_ok.mono _ _ _ _ hs28.le hl
  refine (h6_rank hs38.sat hl (by have:=Lft.rank_le l; simp only [Lft.size] at hz; omega)).mono ?_
  rintro _ w39 ⟨rfl,hs39⟩
  have:=hs39.size
  have hor:=hor.t hs28 |>.t hs36 |>.u hs37 |>.t hs38 |>.t hs39
  have howi:=howi.t hs36 |>.u hs37 |>.t hs38 |>.t hs39
  have hT:=hT.t hs36 |>.o hs37 |>.t hs38 |>.t hs39
  have hori:=hori.t hs39
  have hole:=hole.t hs39
  refine ⟨(by repeat' first | exact trivial | exact OD hori rfl | refine And.intro ?_ ?_),?_⟩
  refine Gh 3 15 rfl (Ks [T]) (h_call V rfl ?_)
  refine (h6_rank hs39.sat hm (by have:=Lft.rank_le (Lft.meld r (.node y l2 r2)); rw [Lft.meld_size] at this; simp only [Lft.size] at hz this; omega)).mono ?_
  rintro _ w40 ⟨rfl,hs40⟩
  have:=hs40.size
  refine ⟨trivial,?_⟩
  refine Gq 4 31 rfl (fun _=>q_lt rfl rfl)<|Dx Z ?_
  have hor:=hor.t hs40
  have howi:=howi.t hs40
  have hori:=hori.t hs40
  have hole:=hole.t hs40
  have hT:=hT.t hs40
  refine cw_cond rfl (fun hc3=>?_) (fun hc3=>?_)
  ·have hc3:=of_decide_eq_true hc3
   refine Ri fun Z=>Qf 0 rfl<|Qc 2 rfl (OD howi rfl)<|Qc 3 rfl (OD hori rfl)<|Qc 3 rfl (OD hole rfl)<|as_h rfl (h_buildM (e:=32) (size:=3) (zs:=[(.int .i64 0),(.int .i64 0),(.slice none 0 0),(.int .i64 0),(.int .i64 0),(.slice none 0 0)]) (cs:=[_,_,_,_,_,_]) V V V rfl hs40.sat rfl rfl rfl fun bk Mk w41 hs41 hrk ek=>?_)
   have:=hs41.size
   refine Qq rfl (q_build (zs:=[(.int .i64 0),(.int .i64 0),(.slice none 0 0)]) (places:=[(0,2),(2,1)]) (cs:=[_,_,_]) V V rfl rfl)<|Qm rfl<|Qq rfl (q_addw (b:=2) rfl rfl) ?_
   have hor:=hor.t hs41
   refine St hs41.sat hor rfl fun w42 hs42 hor=>?_
   have:=hs42.size
   refine Na rfl Z<|cw_ret ?_
   have hl:=h6_ok.mono _ _ _ _ hs41.le hl
   have hm:=h6_ok.mono _ _ _ _ hs41.le hm
   have hT:=hT.t hs41 |>.o hs42
   exact ⟨_,(Rc 3 rfl (OD hor rfl) (Rt rfl)),_,_,tup_eq (by rw [Lft.meldC,if_neg (by rw [hc2]; decide)]; omega),hT,by rw [Lft.meld,if_neg (by rw [hc2]; decide),Lft.mk,if_pos O]; exact ⟨_,_,_,_,rfl,hrk,hm,hl⟩⟩
  ·have hc3:=of_decide_eq_false hc3
   refine cw_skip<|hK21 _ _<|Ri fun Z=>Qf 0 rfl<|Qc 2 rfl (OD howi rfl)<|Qc 3 rfl (OD hole rfl)<|Qc 3 rfl (OD hori rfl)<|as_h rfl (h_buildM (e:=32) (size:=3) (zs:=[(.int .i64 0),(.int .i64 0),(.slice none 0 0),(.int .i64 0),(.int .i64 0),(.slice none 0 0)]) (cs:=[_,_,_,_,_,_]) V V V rfl hs40.sat rfl rfl rfl fun bk Mk w43 hs43 hrk ek=>?_)
   have:=hs43.size
   refine Qq rfl (q_build (zs:=[(.int .i64 0),(.int .i64 0),(.slice none 0 0)]) (places:=[(0,2),(2,1)]) (cs:=[_,_,_]) V V rfl rfl)<|Qm rfl<|Qq rfl (q_addw (b:=2) rfl rfl) ?_
   have hor:=hor.t hs43
   refine St hs43.sat hor rfl fun w44 hs44 hor=>?_
   have:=hs44.size
   refine Na rfl Z<|cw_ret ?_
   have hl:=h6_ok.mono _ _ _ _ hs43.le hl
   have hm:=h6_ok.mono _ _ _ _ hs43.le hm
   have hT:=hT.t hs43 |>.o hs44
   exact ⟨_,(Rc 3 rfl (OD hor rfl) (Rt rfl)),_,_,tup_eq (by rw [Lft.meldC,if_neg (by rw [hc2]; decide)]; omega),hT,by rw [Lft.meld,if_neg (by rw [hc2]; decide),Lft.mk,if_neg O]; exact ⟨_,_,_,_,rfl,hrk,hl,hm⟩⟩
theorem h6_meld_all:∀ k,M6 mb k
 | 0=>fun _ _ _ _ _ _ _ _ _ h _=>absurd h (Nat.not_lt_zero _)
 | k+1=>fun w M a b ca cb hs ha hb hk hz=>by
  cases a with
  | nil=>rw [show Lft.nil.meld b=b by rw [Lft.meld],show Lft.nil.meldC b=0 by rw [Lft.meldC]]; exact h6_meld_a hs ha hb
  | node x l r=>
   cases b with
   | nil=>rw [show (Lft.node x l r).meld .nil = .node x l r by rw [Lft.meld],show (Lft.node x l r).meldC .nil=0 by rw [Lft.meldC]]; exact h6_meld_b hs ha hb
   | node y l2 r2=>exact h6_meld_c (h6_meld_all k) hs ha hb hk hz
theorem h6_meld {a b:Lft} {ca cb:List Value} (hs:Sat M w) (ha:H6 M a ca) (hb:H6 M b cb) (hz:a.size+b.size≤1000000000):
  Dz 47 #[.agg ca.toArray, .agg cb.toArray] w (fun v w'=>∃ cv M',v = .tuple #[.agg cv.toArray,wv (a.meldC b)]∧Step Nope M w M' w'∧H6 M' (a.meld b) cv):=h6_meld_all _ _ _ _ _ _ _ hs ha hb (Nat.lt_succ_self _) hz
theorem h6_insert {x:El} {t:Lft} {cs:List Value} (hs:Sat M w) (h:H6 M t cs) (hz:t.size<1000000000):
  Dz 41 #[.agg (elc x).toArray, .agg cs.toArray] w (fun v w'=>∃ cv M',v = .tuple #[.agg cv.toArray,wv (t.insertC x)]∧Step Nope M w M' w'∧H6 M' (t.insert x) cv):=by
 have hT:=hs.r
 obtain ⟨x1,x2,a,n,c,rfl⟩:=h.shape
 refine Fe Tryz.func41 [.cell 4 32, .tmp 5] rfl<|Ri fun Z=>Bm hs rfl fun b1 M1 w1 hs1 hb1 e1=>?_
 have:=hs1.size
 refine Bm hs1.sat rfl fun b2 M2 w2 hs2 hb2 e2=>?_
 have:=hs2.size
 have hT:=hT.t hs1 |>.t hs2
 have:=hT.size
 refine Al (.agg #[(.int .i64 0),(.int .i64 0),(.slice none 0 0)]) hs2.sat rfl fun br w3 hs3 hor er=>?_
 have:=hs3.size
 have:=hor.1.lt
 refine Nar rfl Z fun Z=>?_
 have hb1:=hs2.le _ _ hb1
 refine Qc 2 rfl (BD hs3 hb1 rfl)<|Qq rfl (q_build (zs:=[(.int .i64 0),(.int .i64 0),(.slice none 0 0)]) (places:=[(0,2),(2,1)]) (cs:=[_,_,_]) V V rfl rfl)<|Qq rfl (q_build (zs:=[(.int .i64 0),(.int .i64 0),(.slice none 0 0)]) (places:=[(0,2),(2,1)]) (cs:=[_,_,_]) V V rfl rfl)<|as_h rfl (h_buildM (e:=32) (size:=3) (zs:=[(.int .i64 0),(.int .i64 0),(.slice none 0 0),(.int .i64 0),(.int .i64 0),(.slice none 0 0)]) (cs:=[_,_,_,_,_,_]) V V V rfl hs3.sat rfl rfl rfl fun bk Mk w4 hs4 hrk ek=>?_)
 have:=hs4.size
 refine Qq rfl (q_build (zs:=[(.int .i64 0),(.int .i64 0),(.slice none 0 0)]) (places:=[(0,2),(2,1)]) (cs:=[_,_,_]) V V rfl rfl) ?_
 have hb2:=hs4.le _ _ hb2
 refine Qc 3 rfl (BD hs4 hb2 rfl) ?_
 have h:=h6_ok.mono _ _ _ _ hs4.le (h6_ok.mono _ _ _ _ hs2.le (h6_ok.mono _ _ _ _ hs1.le h))
 refine Ca rfl ((h6_meld (a:= .node x .nil .nil) hs4.sat ⟨_,_,_,_,rfl,hrk,⟨_,_,_,_,rfl⟩,⟨_,_,_,_,rfl⟩⟩ h (by simp only [Lft.size]; omega)).mono ?_)
 rintro _ w5 ⟨cm,Mm,rfl,hs5,hm⟩
 obtain ⟨x3,y3,a3,n3,c3,rfl⟩:=hm.shape
 have:=hs5.size
 refine Qm rfl<|Qe rfl<|Qe rfl ?_
 have hT:=hT.t hs3 |>.t hs4 |>.t hs5
 have:=hT.size
 refine Al (.agg #[(.int .i64 0),(.int .i64 0),(.slice none 0 0)]) hs5.sat rfl fun bg w6 hs6 hog eg=>?_
 have:=hs6.size
 have:=hog.1.lt
 refine St hs6.sat hog rfl fun w7 hs7 hog=>?_
 have h:=h6_ok.mono _ _ _ _ hs5.le h
 have:=hs7.size
 refine Nar rfl Z fun Z=>Qc 3 rfl (OD hog rfl)<|Qm rfl<|Qq rfl (q_addwi (b:=1) rfl rfl) ?_
 have hor:=hor.t hs4 |>.t hs5 |>.t hs6 |>.u hs7
 refine St hs7.sat hor rfl fun w8 hs8 hor=>?_
 have:=hs8.size
 refine Na rfl Z<|cw_ret ?_
 have hT:=hT.t hs6 |>.o hs7 |>.o hs8
 exact ⟨_,(Rc 3 rfl (OD hor rfl) (Rt rfl)),_,_,tup_eq (Nat.add_comm _ _),hT,hm⟩
theorem h6_pop {x:El} {l r:Lft} {ca:List Value} (hs:Sat M w) (ha:H6 M (.node x l r) ca) (hz:(Lft.node x l r).size≤1000000000):
  Dz 55 #[.agg ca.toArray] w (fun v w'=>∃ cv M',v = .tuple #[.agg cv.toArray,wv (l.meldC r)]∧Step Nope M w M' w'∧H6 M' (l.meld r) cv):=by
 have hT:=hs.r
 obtain ⟨a1,c1,rfl,hrow⟩:=h6_node.1 ha
 obtain ⟨g1,o1,kl,rfl,_,hl,hatl⟩:=hrow.get h6_ok (i:=0) (t:=l) rfl
 obtain ⟨g1_,o1_,kr,e1_,_,hr,hatr⟩:=hrow.get h6_ok (i:=1) (t:=r) rfl
 cases e1_
 obtain ⟨lx,ly,la,ln,lc,rfl⟩:=hl.shape
 obtain ⟨rx,ry,ra,rn,rc,rfl⟩:=hr.shape
 refine Fe Tryz.func55 [.cell 2 32, .tmp 3] rfl<|Ri fun Z=>Bm hs rfl fun b1 M1 w1 hs1 hb1 e1=>?_
 have:=hs1.size
 have hT:=hT.t hs1
 have:=hT.size
 refine Al (.agg #[(.int .i64 0),(.int .i64 0),(.slice none 0 0)]) hs1.sat rfl fun br w2 hs2 hor er=>?_
 have:=hs2.size
 have:=hor.1.lt
 refine Na rfl Z<|cw_seq fun _ hK2=>Ri fun Z=>Qf 2 rfl<|Q1 rfl (BC hs2 hb1 rfl)<|Qq rfl (ql rfl)<|Qq rfl (q_eqF rfl rfl (by simp))<|Nx Z<|cw_false rfl<|cw_skip<|hK2 _ _<|Rv fun Z=>?_
 have hs3:=Step.drew hs2.sat
 have:=hs3.size
 refine Gf 0 1 2 rfl<|G1 1 3 rfl (BC hs3 hb1 rfl)<|Gq 2 7 rfl (fun _=>qi 32 3 rfl) ?_
 have hT:=hT.t hs2 |>.t hs3
 refine Gc 3 15 3 rfl (hatl _ _ hT.le hT.sat)<|Gf 4 31 2 rfl<|G1 5 63 rfl (BC hs3 hb1 rfl)<|Gq 6 127 rfl (fun _=>qi 32 3 rfl)<|Gc 7 255 3 rfl (hatr _ _ hT.le hT.sat)<|Gh 8 511 rfl (Ks [T,F,T,F]) (h_call V rfl ?_)
 have hl:=h6_ok.mono _ _ _ _ hs1.le hl
 have hr:=h6_ok.mono _ _ _ _ hs1.le hr
 refine (h6_meld hs3.sat hl hr (by simp only [Lft.size] at hz; omega)).mono ?_
 rintro _ w4 ⟨cm,Mm,rfl,hs4,hm⟩
 obtain ⟨x3,y3,a3,n3,c3,rfl⟩:=hm.shape
 have:=hs4.size
 have hor:=hor.t hs3 |>.t hs4
 have hb1:=hs4.le _ _ hb1
 have hT:=hT.t hs4
 refine ⟨(by repeat' first | exact trivial | exact BC hs4 hb1 rfl | refine And.intro ?_ ?_),?_⟩
 refine Gq 9 1023 rfl (fun _=>q_extract rfl rfl)<|Gq 10 2047 rfl (fun _=>q_extract rfl rfl)<|G0 11 4095 rfl (Ks [T,T]) (h_store hs4.sat hor rfl rfl rfl V rfl rfl rfl fun w5 hs5 hn5=>?_)
 clear hor; have hor:=hn5; clear hn5
 have:=hs5.size
 refine ⟨trivial,?_⟩
 refine Ga 12 8191 rfl<|Dx Z<|cw_ret ?_
 have hT:=hT.o hs5
 exact ⟨_,(Rc 3 rfl (OD hor rfl) (Rt rfl)),_,_,tup_eq (rfl),hT,hm⟩
theorem h6_min {x:El} {l r:Lft} {ca:List Value} (hs:Sat M w) (ha:H6 M (.node x l r) ca):
  Dz 71 #[.agg ca.toArray] w (fun v w'=>v = .tuple #[.agg (elc x).toArray,wv 0]∧Step Nope M w M w'):=by
 have hT:=hs.r
 obtain ⟨a,c,rfl,_⟩:=h6_node.1 ha
 refine Fe Tryz.func71 [.cell 2 29, .tmp 3] rfl<|Ri fun Z=>Bm hs rfl fun b1 M1 w1 hs1 hb1 e1=>?_
 have:=hs1.size
 have hT:=hT.t hs1
 have:=hT.size
 refine Al (.agg #[(.int .i64 0),(.int .i64 0)]) hs1.sat rfl fun br w2 hs2 hor er=>?_
 have:=hs2.size
 have:=hor.1.lt
 refine Nar rfl Z fun Z=>Qf 0 rfl<|Qc 2 rfl (BD hs2 hb1 rfl)<|St hs2.sat hor rfl fun w3 hs3 hor=>?_
 have:=hs3.size
 refine Na rfl Z<|cw_ret ?_
 have hT:=hT.t hs2 |>.o hs3
 exact ⟨_,(Rc 2 rfl (OD hor rfl) (Rt rfl)),tup0,hT.forget⟩
theorem h6_size_n {cs:List Value} (hs:Sat M w) (h:H6 M .nil cs):
  Dz 65 #[.agg cs.toArray] w (fun v w'=>v = .int .i64 (Lft.nil.size:Nat)∧Step Nope M w M w'):=by
 have hT:=hs.r
 obtain ⟨x,y,a,c,rfl⟩:=h
 refine Fe Tryz.func65 [.tmp 2] rfl<|Ri fun Z=>Bm hs rfl fun b1 M1 w1 hs1 hb1 e1=>Na rfl Z<|cw_seq fun _ hK2=>Ri fun Z=>Qf 2 rfl<|Q1 rfl (BC hs1 hb1 rfl)<|Qq rfl (ql rfl)<|Qq rfl (q_eqT rfl rfl (by simp))<|Nx Z<|cw_true rfl<|Ri fun Z=>Na rfl Z<|cw_ret ?_
 have hT:=hT.t hs1
 exact ⟨_,Rt rfl,rfl,hT.forget⟩
theorem h6_size_c {w:World} {M:Mem mb} {x:El} {l r:Lft} {ca:List Value} (ihl:∀ {w:World} {M:Mem mb} {cs:List Value},Sat M w→H6 M l cs→Dz 65 #[.agg cs.toArray] w (fun v w'=>v = .int .i64 (l.size:Nat)∧Step Nope M w M w')) (ihr:∀ {w:World} {M:Mem mb} {cs:List Value},Sat M w→H6 M r cs→Dz 65 #[.agg cs.toArray] w (fun v w'=>v = .int .i64 (r.size:Nat)∧Step Nope M w M w')) (hs:Sat M w) (ha:H6 M (.node x l r) ca) (hz:1+l.size+r.size≤1000000000):
  Dz 65 #[.agg ca.toArray] w (fun v w'=>v = .int .i64 ((Lft.node x l r).size:Nat)∧Step Nope M w M w'):=by
 have hT:=hs.r
 obtain ⟨a1,c1,rfl,hrow⟩:=h6_node.1 ha
 obtain ⟨g1,o1,kl,rfl,_,hl,hatl⟩:=hrow.get h6_ok (i:=0) (t:=l) rfl
 obtain ⟨g1_,o1_,kr,e1_,_,hr,hatr⟩:=hrow.get h6_ok (i:=1) (t:=r) rfl
 cases e1_
 obtain ⟨lx,ly,la,ln,lc,rfl⟩:=hl.shape
 obtain ⟨rx,ry,ra,rn,rc,rfl⟩:=hr.shape
 refine Fe Tryz.func65 [.tmp 2] rfl<|Ri fun Z=>Bm hs rfl fun b1 M1 w1 hs1 hb1 e1=>Na rfl Z<|cw_seq fun _ hK2=>Ri fun Z=>Qf 2 rfl<|Q1 rfl (BC hs1 hb1 rfl)<|Qq rfl (ql rfl)<|Qq rfl (q_eqF rfl rfl (by simp))<|Nx Z<|cw_false rfl<|cw_skip<|hK2 _ _<|Rv fun Z=>?_
 have hs2:=Step.drew hs1.sat
 refine Gf 0 1 2 rfl<|G1 1 3 rfl (BC hs2 hb1 rfl)<|Gq 2 7 rfl (fun _=>qi 32 3 rfl) ?_
 have hT:=hT.t hs1 |>.t hs2
 refine Gc 3 15 3 rfl (hatl _ _ hT.le hT.sat)<|Gf 6 79 2 rfl<|G1 7 207 rfl (BC hs2 hb1 rfl)<|Gq 8 463 rfl (fun _=>qi 32 3 rfl)<|Gc 9 975 3 rfl (hatr _ _ hT.le hT.sat)<|Gh 4 991 rfl (Ks [F,F,T,F]) (h_call V rfl ?_)
 have hl:=h6_ok.mono _ _ _ _ hs1.le hl
 refine (ihl hs2.sat hl).mono ?_
 rintro _ w3 ⟨rfl,hs3⟩
 have hr:=h6_ok.mono _ _ _ _ hs1.le hr
 have hT:=hT.t hs3
 refine ⟨(by repeat' first | exact trivial | exact BC hs3 hb1 rfl | exact (hatr _ _ hT.le hT.sat) | refine And.intro ?_ ?_),?_⟩
 refine Gq 5 1023 rfl (fun _=>qA rfl)<|Gh 10 2047 rfl (Ks [T,F,F]) (h_call V rfl ?_)
 refine (ihr hs3.sat hr).mono ?_
 rintro _ w4 ⟨rfl,hs4⟩
 have hT:=hT.t hs4
 refine ⟨(by repeat' first | exact trivial | exact BC hs4 hb1 rfl | refine And.intro ?_ ?_),?_⟩
 refine Gq 11 4095 rfl (fun _=>qA rfl)<|Ga 12 8191 rfl<|Dx Z<|cw_ret ?_
 exact ⟨_,Rt rfl,congrArg (Value.int .i64) (by simp only [Lft.size]; omega),hT.forget⟩
theorem h6_size:∀ {t:Lft} {w:World} {M:Mem mb} {cs:List Value},Sat M w→H6 M t cs→t.size≤1000000000→Dz 65 #[.agg cs.toArray] w (fun v w'=>v = .int .i64 (t.size:Nat)∧Step Nope M w M w')
 | .nil,_,_,_,hs,h,_=>h6_size_n hs h
 | .node _ l r,_,_,_,hs,h,hz=>h6_size_c (fun hs h=>h6_size hs h (by rw [Lft.size] at hz; omega)) (fun hs h=>h6_size hs h (by rw [Lft.size] at hz; omega)) hs h (by rw [Lft.size] at hz; omega)
end Go.Proofs.YtnnldppehojffaaGreat
/- The reference of any kind, part 1. -/
namespace Go.Proofs.YtnnldppehojffaaGreat
open Go Go.Eng
variable {mb:Option Nat} {w:World} {M:Mem mb}
end Go.Proofs.YtnnldppehojffaaGreat
namespace Go.Eng
open Go
variable {mb:Option Nat} {w:World} {M:Mem mb}
def H15 (M:Raw):HM→List Value→Prop
 | .z,_=>False
 | .a t,cs=>∃ (x y:Int) (a:Option Addr) (n c:Nat),H6 M t [.int .i64 x, .int .i64 y, .slice a n c]∧cs=[.int .i64 1, .int .i64 x, .int .i64 y, .slice a n c, .slice none 0 0, .int .i64 0, .int .i64 0, .slice none 0 0, .int .i64 0, .slice none 0 0, .bool false, .int .i64 0, .int .i64 0, .slice none 0 0, .bool false, .int .i64 0, .int .i64 0, .slice none 0 0]
 | .b t,cs=>∃ (a:Option Addr) (n c:Nat),Row T5 6 M t (.slice a n c)∧cs=[.int .i64 2, .int .i64 0, .int .i64 0, .slice none 0 0, .slice a n c, .int .i64 0, .int .i64 0, .slice none 0 0, .int .i64 0, .slice none 0 0, .bool false, .int .i64 0, .int .i64 0, .slice none 0 0, .bool false, .int .i64 0, .int .i64 0, .slice none 0 0]
 | .c t,cs=>∃ (x y z:Int) (a:Option Addr) (n c:Nat),H8 M t [.int .i64 x, .int .i64 y, .slice a n c, .int .i64 z]∧t.nn∧cs=[.int .i64 3, .int .i64 0, .int .i64 0, .slice none 0 0, .slice none 0 0, .int .i64 x, .int .i64 y, .slice a n c, .int .i64 z, .slice none 0 0, .bool false, .int .i64 0, .int .i64 0, .slice none 0 0, .bool false, .int .i64 0, .int .i64 0, .slice none 0 0]
 | .d t,cs=>∃ (a:Option Addr) (n c:Nat),Row T5 6 M t (.slice a n c)∧cs=[.int .i64 4, .int .i64 0, .int .i64 0, .slice none 0 0, .slice none 0 0, .int .i64 0, .int .i64 0, .slice none 0 0, .int .i64 0, .slice a n c, .bool false, .int .i64 0, .int .i64 0, .slice none 0 0, .bool false, .int .i64 0, .int .i64 0, .slice none 0 0]
 | .e t,cs=>∃ (b:Bool) (x y:Int) (a:Option Addr) (n c:Nat),H10 M t [.bool b, .int .i64 x, .int .i64 y, .slice a n c]∧cs=[.int .i64 5, .int .i64 0, .int .i64 0, .slice none 0 0, .slice none 0 0, .int .i64 0, .int .i64 0, .slice none 0 0, .int .i64 0, .slice none 0 0, .bool b, .int .i64 x, .int .i64 y, .slice a n c, .bool false, .int .i64 0, .int .i64 0, .slice none 0 0]
 | .f t,cs=>∃ (b:Bool) (x y:Int) (a:Option Addr) (n c:Nat),B11 M t [.bool b, .int .i64 x, .int .i64 y, .slice a n c]∧cs=[.int .i64 6, .int .i64 0, .int .i64 0, .slice none 0 0, .slice none 0 0, .int .i64 0, .int .i64 0, .slice none 0 0, .int .i64 0, .slice none 0 0, .bool false, .int .i64 0, .int .i64 0, .slice none 0 0, .bool b, .int .i64 x, .int .i64 y, .slice a n c]
theorem H10.shape {M:Raw} {t:Ro} {cs:List Value} (h:H10 M t cs):∃ (b:Bool) (x y:Int) (a:Option Addr) (n c:Nat),cs=[.bool b, .int .i64 x, .int .i64 y, .slice a n c]:=by
 cases t with
 | nil=>obtain ⟨x,y,a,n,c,h⟩:=h; exact ⟨_,x,y,a,n,c,h⟩
 | node x ts=>obtain ⟨a,c,h,_⟩:=h; exact ⟨_,_,_,a,_,c,h⟩
theorem H15.shape {M:Raw} {t:HM} {cs:List Value} (h:H15 M t cs):∃ (x0 x1 x2 x5 x6 x8 x11 x12 x15 x16:Int) (a3 a4 a7 a9 a13 a17:Option Addr) (n3 n4 n7 n9 n13 n17 c3 c4 c7 c9 c13 c17:Nat) (b10 b14:Bool),cs=[.int .i64 x0, .int .i64 x1, .int .i64 x2, .slice a3 n3 c3, .slice a4 n4 c4, .int .i64 x5, .int .i64 x6, .slice a7 n7 c7, .int .i64 x8, .slice a9 n9 c9, .bool b10, .int .i64 x11, .int .i64 x12, .slice a13 n13 c13, .bool b14, .int .i64 x15, .int .i64 x16, .slice a17 n17 c17]:=by
 cases t with
 | z=>exact h.elim
 | a t=>obtain ⟨_,_,_,_,_,_,rfl⟩:=h; exact ⟨_,_,_,_,_,_,_,_,_,_,_,_,_,_,_,_,_,_,_,_,_,_,_,_,_,_,_,_,_,_,rfl⟩
 | b t=>obtain ⟨_,_,_,_,rfl⟩:=h; exact ⟨_,_,_,_,_,_,_,_,_,_,_,_,_,_,_,_,_,_,_,_,_,_,_,_,_,_,_,_,_,_,rfl⟩
 | c t=>obtain ⟨_,_,_,_,_,_,_,_,rfl⟩:=h; exact ⟨_,_,_,_,_,_,_,_,_,_,_,_,_,_,_,_,_,_,_,_,_,_,_,_,_,_,_,_,_,_,rfl⟩
 | d t=>obtain ⟨_,_,_,_,rfl⟩:=h; exact ⟨_,_,_,_,_,_,_,_,_,_,_,_,_,_,_,_,_,_,_,_,_,_,_,_,_,_,_,_,_,_,rfl⟩
 | e t=>obtain ⟨_,_,_,_,_,_,_,rfl⟩:=h; exact ⟨_,_,_,_,_,_,_,_,_,_,_,_,_,_,_,_,_,_,_,_,_,_,_,_,_,_,_,_,_,_,rfl⟩
 | f t=>obtain ⟨_,_,_,_,_,_,_,rfl⟩:=h; exact ⟨_,_,_,_,_,_,_,_,_,_,_,_,_,_,_,_,_,_,_,_,_,_,_,_,_,_,_,_,_,_,rfl⟩
theorem H15.mono {M M':Raw} (l:Le M M'):∀ {t:HM} {cs:List Value},H15 M t cs→H15 M' t cs
 | .z,_,h=>h
 | .a _,_,⟨x,y,a,n,c,h,h3⟩=>⟨x,y,a,n,c,h6_mono _ _ _ _ l h,h3⟩
 | .b _,_,⟨a,n,c,h,h3⟩=>⟨a,n,c,h.mono t5_ok l,h3⟩
 | .c _,_,⟨x,y,z,a,n,c,h,h2,h3⟩=>⟨x,y,z,a,n,c,h8_mono l h,h2,h3⟩
 | .d _,_,⟨a,n,c,h,h3⟩=>⟨a,n,c,h.mono t5_ok l,h3⟩
 | .e _,_,⟨b,x,y,a,n,c,h,h3⟩=>⟨b,x,y,a,n,c,h.mono l,h3⟩
 | .f _,_,⟨b,x,y,a,n,c,h,h3⟩=>⟨b,x,y,a,n,c,b11_mono l h,h3⟩
theorem puts_at:∀ (vs cs p:List Value),cs.length=vs.length→puts (p++cs) p.length vs=p++vs
 | [],[],p,_=>rfl
 | v::r,c::cs,p,h=>by
  rw [puts,show (p++c::cs).set p.length v=(p++[v])++cs by simp,show p.length+1=(p++[v]).length by simp,puts_at r cs (p++[v]) (Nat.succ.inj h)]
  simp
theorem Own.all {b e:Nat} {cs vs:List Value} (h:Own w M b (puts cs 0 vs) e) (hl:cs.length=vs.length):Own w M b vs e:=by
 have h2:=puts_at vs cs [] hl
 rw [List.nil_append,List.nil_append] at h2
 rw [← h2]
 exact h
end Go.Eng
namespace Go.Proofs.YtnnldppehojffaaGreat
open Go Go.Eng
variable {mb:Option Nat} {w:World} {M:Mem mb}
theorem r15_insert_1 {R:Raw→List Value→Prop} {cost:Nat} {x y:Int} {a:Option Addr} {n c:Nat} {x0:El} (hs:Sat M w) (hc:∀ (w':World) (M':Mem mb),Le M M'→Sat M' w'→Dz 41 #[.agg (elc x0).toArray, .agg #[.int .i64 x, .int .i64 y, .slice a n c]] w' (fun v w''=>∃ (x' y':Int) (a':Option Addr) (n' c':Nat) (M'':Mem mb),v = .tuple #[.agg #[.int .i64 x', .int .i64 y', .slice a' n' c'],wv cost]∧Step Nope M' w' M'' w''∧R M'' [.int .i64 x', .int .i64 y', .slice a' n' c'])):
  Dz 21 #[.agg (elc x0).toArray, .agg #[.int .i64 1, .int .i64 x, .int .i64 y, .slice a n c, .slice none 0 0, .int .i64 0, .int .i64 0, .slice none 0 0, .int .i64 0, .slice none 0 0, .bool false, .int .i64 0, .int .i64 0, .slice none 0 0, .bool false, .int .i64 0, .int .i64 0, .slice none 0 0]] w (fun v w''=>∃ (x' y':Int) (a':Option Addr) (n' c':Nat) (M'':Mem mb),v = .tuple #[.agg #[.int .i64 1, .int .i64 x', .int .i64 y', .slice a' n' c', .slice none 0 0, .int .i64 0, .int .i64 0, .slice none 0 0, .int .i64 0, .slice none 0 0, .bool false, .int .i64 0, .int .i64 0, .slice none 0 0, .bool false, .int .i64 0, .int .i64 0, .slice none 0 0],wv cost]∧Step Nope M w M'' w''∧R M'' [.int .i64 x', .int .i64 y', .slice a' n' c']):=by
 have hT:=hs.r
 refine Fe Tryz.func21 [.cell 4 46, .tmp 5] rfl<|Ri fun Z=>Bm hs rfl fun b1 M1 w1 hs1 hb1 e1=>?_
 have:=hs1.size
 have hT:=hT.t hs1
 have:=hT.size
 refine Bo hs1.sat rfl fun bh w2 hs2 hoh eh=>?_
 have:=hs2.size
 have:=hoh.1.lt
 have hT:=hT.t hs2
 have:=hT.size
 refine Al (.agg #[(.int .i64 0),(.int .i64 0),(.int .i64 0),(.slice none 0 0),(.slice none 0 0),(.int .i64 0),(.int .i64 0),(.slice none 0 0),(.int .i64 0),(.slice none 0 0),(.bool false),(.int .i64 0),(.int .i64 0),(.slice none 0 0),(.bool false),(.int .i64 0),(.int .i64 0),(.slice none 0 0)]) hs2.sat rfl fun br w3 hs3 hor er=>?_
 have:=hs3.size
 have:=hor.1.lt
 refine Nar rfl Z fun Z=>Na rfl Z<|cw_seq fun _ hK3=>Ri fun Z=>Qf 0 rfl ?_
 have hoh:=hoh.t hs3
 refine Q1 rfl (OC hoh rfl)<|Nx Z<|cw_block<|Ri fun Z=>Qq rfl (qET rfl)<|Na rfl Z<|cw_true rfl<|Ri fun Z=>Qc 2 rfl (BD hs3 hb1 rfl)<|Qf 1 rfl<|Qc 3 rfl (OD hoh rfl) ?_
 have hT:=hT.t hs3
 refine Ca rfl ((hc _ _ hT.le hs3.sat).mono ?_)
 rintro _ w4 ⟨x2,y2,a2,n2,c2,Mm,rfl,hs4,hm⟩
 have:=hs4.size
 refine Qm rfl<|Qe rfl<|Qe rfl ?_
 have hT:=hT.t hs4
 have:=hT.size
 refine Al (.agg #[(.int .i64 0),(.int .i64 0),(.slice none 0 0)]) hs4.sat rfl fun bn w5 hs5 hon en=>?_
 have:=hs5.size
 have:=hon.1.lt
 refine St hs5.sat hon rfl fun w6 hs6 hon=>?_
 have:=hs6.size
 refine Nar rfl Z fun Z=>Qc 3 rfl (OD hon rfl)<|Qf 1 rfl ?_
 have hoh:=hoh.t hs4 |>.t hs5 |>.u hs6
 refine St hs6.sat hoh rfl fun w7 hs7 hoh=>?_
 have:=hs7.size
 replace hoh:Own w7 Mm bh [.int .i64 1, .int .i64 x2, .int .i64 y2, .slice a2 n2 c2, .slice none 0 0, .int .i64 0, .int .i64 0, .slice none 0 0, .int .i64 0, .slice none 0 0, .bool false, .int .i64 0, .int .i64 0, .slice none 0 0, .bool false, .int .i64 0, .int .i64 0, .slice none 0 0] 46:=hoh
 refine Nx Z<|cw_region fun _ Z=>Qm rfl<|Qa rfl<|as_nil (Z _ _ ?_)
 refine hK3 _ _<|Ri fun Z=>Qc 18 rfl (OD hoh rfl)<|Qm rfl ?_
 have hor:=hor.t hs4 |>.t hs5 |>.u hs6 |>.u hs7
 refine St hs7.sat hor rfl fun w8 hs8 hor=>?_
 have:=hs8.size
 have hor:=hor.all rfl
 refine Na rfl Z<|cw_ret ?_
 have hT:=hT.t hs5 |>.o hs6 |>.o hs7 |>.o hs8
 exact ⟨_,(Rc 18 rfl (OD hor rfl) (Rt rfl)),_,_,_,_,_,_,rfl,hT,hm⟩
theorem r15_insert_2 {R:Raw→List Value→Prop} {cost:Nat} {a:Option Addr} {n c:Nat} {x0:El} (hs:Sat M w) (hc:∀ (w':World) (M':Mem mb),Le M M'→Sat M' w'→Dz 42 #[.agg (elc x0).toArray, .agg #[.slice a n c]] w' (fun v w''=>∃ (a':Option Addr) (n' c':Nat) (M'':Mem mb),v = .tuple #[.agg #[.slice a' n' c'],wv cost]∧Step Nope M' w' M'' w''∧R M'' [.slice a' n' c'])):
  Dz 21 #[.agg (elc x0).toArray, .agg #[.int .i64 2, .int .i64 0, .int .i64 0, .slice none 0 0, .slice a n c, .int .i64 0, .int .i64 0, .slice none 0 0, .int .i64 0, .slice none 0 0, .bool false, .int .i64 0, .int .i64 0, .slice none 0 0, .bool false, .int .i64 0, .int .i64 0, .slice none 0 0]] w (fun v w''=>∃ (a':Option Addr) (n' c':Nat) (M'':Mem mb),v = .tuple #[.agg #[.int .i64 2, .int .i64 0, .int .i64 0, .slice none 0 0, .slice a' n' c', .int .i64 0, .int .i64 0, .slice none 0 0, .int .i64 0, .slice none 0 0, .bool false, .int .i64 0, .int .i64 0, .slice none 0 0, .bool false, .int .i64 0, .int .i64 0, .slice none 0 0],wv cost]∧Step Nope M w M'' w''∧R M'' [.slice a' n' c']):=by
 have hT:=hs.r
 refine Fe Tryz.func21 [.cell 4 46, .tmp 5] rfl<|Ri fun Z=>Bm hs rfl fun b1 M1 w1 hs1 hb1 e1=>?_
 have:=hs1.size
 have hT:=hT.t hs1
 have:=hT.size
 refine Bo hs1.sat rfl fun bh w2 hs2 hoh eh=>?_
 have:=hs2.size
 have:=hoh.1.lt
 have hT:=hT.t hs2
 have:=hT.size
 refine Al (.agg #[(.int .i64 0),(.int .i64 0),(.int .i64 0),(.slice none 0 0),(.slice none 0 0),(.int .i64 0),(.int .i64 0),(.slice none 0 0),(.int .i64 0),(.slice none 0 0),(.bool false),(.int .i64 0),(.int .i64 0),(.slice none 0 0),(.bool false),(.int .i64 0),(.int .i64 0),(.slice none 0 0)]) hs2.sat rfl fun br w3 hs3 hor er=>?_
 have:=hs3.size
 have:=hor.1.lt
 refine Nar rfl Z fun Z=>Na rfl Z<|cw_seq fun _ hK3=>Ri fun Z=>Qf 0 rfl ?_
 have hoh:=hoh.t hs3
 refine Q1 rfl (OC hoh rfl)<|Nx Z<|cw_block<|Ri fun Z=>Qq rfl (qEF rfl)<|Na rfl Z<|cw_false rfl<|Ri fun Z=>Qq rfl (qET rfl)<|Na rfl Z<|cw_true rfl<|Ri fun Z=>Qc 2 rfl (BD hs3 hb1 rfl)<|Qf 4 rfl<|Qc 1 rfl (OD hoh rfl) ?_
 have hT:=hT.t hs3
 refine Ca rfl ((hc _ _ hT.le hs3.sat).mono ?_)
 rintro _ w4 ⟨a2,n2,c2,Mm,rfl,hs4,hm⟩
 have:=hs4.size
 refine Qm rfl<|Qe rfl<|Qe rfl ?_
 have hT:=hT.t hs4
 have:=hT.size
 refine Al (.agg #[(.slice none 0 0)]) hs4.sat rfl fun bn w5 hs5 hon en=>?_
 have:=hs5.size
 have:=hon.1.lt
 refine St hs5.sat hon rfl fun w6 hs6 hon=>?_
 have:=hs6.size
 refine Nar rfl Z fun Z=>Qc 1 rfl (OD hon rfl)<|Qf 4 rfl ?_
 have hoh:=hoh.t hs4 |>.t hs5 |>.u hs6
 refine St hs6.sat hoh rfl fun w7 hs7 hoh=>?_
 have:=hs7.size
 replace hoh:Own w7 Mm bh [.int .i64 2, .int .i64 0, .int .i64 0, .slice none 0 0, .slice a2 n2 c2, .int .i64 0, .int .i64 0, .slice none 0 0, .int .i64 0, .slice none 0 0, .bool false, .int .i64 0, .int .i64 0, .slice none 0 0, .bool false, .int .i64 0, .int .i64 0, .slice none 0 0] 46:=hoh
 refine Nx Z<|cw_region fun _ Z=>Qm rfl<|Qa rfl<|as_nil (Z _ _ ?_)
 refine hK3 _ _<|Ri fun Z=>Qc 18 rfl (OD hoh rfl)<|Qm rfl ?_
 have hor:=hor.t hs4 |>.t hs5 |>.u hs6 |>.u hs7
 refine St hs7.sat hor rfl fun w8 hs8 hor=>?_
 have:=hs8.size
 have hor:=hor.all rfl
 refine Na rfl Z<|cw_ret ?_
 have hT:=hT.t hs5 |>.o hs6 |>.o hs7 |>.o hs8
 exact ⟨_,(Rc 18 rfl (OD hor rfl) (Rt rfl)),_,_,_,_,rfl,hT,hm⟩
theorem r15_insert_3 {R:Raw→List Value→Prop} {cost:Nat} {x y z:Int} {a:Option Addr} {n c:Nat} {x0:El} (hs:Sat M w) (hc:∀ (w':World) (M':Mem mb),Le M M'→Sat M' w'→Dz 43 #[.agg (elc x0).toArray, .agg #[.int .i64 x, .int .i64 y, .slice a n c, .int .i64 z]] w' (fun v w''=>∃ (x' y' z':Int) (a':Option Addr) (n' c':Nat) (M'':Mem mb),v = .tuple #[.agg #[.int .i64 x', .int .i64 y', .slice a' n' c', .int .i64 z'],wv cost]∧Step Nope M' w' M'' w''∧R M'' [.int .i64 x', .int .i64 y', .slice a' n' c', .int .i64 z'])):
  Dz 21 #[.agg (elc x0).toArray, .agg #[.int .i64 3, .int .i64 0, .int .i64 0, .slice none 0 0, .slice none 0 0, .int .i64 x, .int .i64 y, .slice a n c, .int .i64 z, .slice none 0 0, .bool false, .int .i64 0, .int .i64 0, .slice none 0 0, .bool false, .int .i64 0, .int .i64 0, .slice none 0 0]] w (fun v w''=>∃ (x' y' z':Int) (a':Option Addr) (n' c':Nat) (M'':Mem mb),v = .tuple #[.agg #[.int .i64 3, .int .i64 0, .int .i64 0, .slice none 0 0, .slice none 0 0, .int .i64 x', .int .i64 y', .slice a' n' c', .int .i64 z', .slice none 0 0, .bool false, .int .i64 0, .int .i64 0, .slice none 0 0, .bool false, .int .i64 0, .int .i64 0, .slice none 0 0],wv cost]∧Step Nope M w M'' w''∧R M'' [.int .i64 x', .int .i64 y', .slice a' n' c', .int .i64 z']):=by
 have hT:=hs.r
 refine Fe Tryz.func21 [.cell 4 46, .tmp 5] rfl<|Ri fun Z=>Bm hs rfl fun b1 M1 w1 hs1 hb1 e1=>?_
 have:=hs1.size
 have hT:=hT.t hs1
 have:=hT.size
 refine Bo hs1.sat rfl fun bh w2 hs2 hoh eh=>?_
 have:=hs2.size
 have:=hoh.1.lt
 have hT:=hT.t hs2
 have:=hT.size
 refine Al (.agg #[(.int .i64 0),(.int .i64 0),(.int .i64 0),(.slice none 0 0),(.slice none 0 0),(.int .i64 0),(.int .i64 0),(.slice none 0 0),(.int .i64 0),(.slice none 0 0),(.bool false),(.int .i64 0),(.int .i64 0),(.slice none 0 0),(.bool false),(.int .i64 0),(.int .i64 0),(.slice none 0 0)]) hs2.sat rfl fun br w3 hs3 hor er=>?_
 have:=hs3.size
 have:=hor.1.lt
 refine Nar rfl Z fun Z=>Na rfl Z<|cw_seq fun _ hK3=>Ri fun Z=>Qf 0 rfl ?_
 have hoh:=hoh.t hs3
 refine Q1 rfl (OC hoh rfl)<|Nx Z<|cw_block<|Ri fun Z=>Qq rfl (qEF rfl)<|Na rfl Z<|cw_false rfl<|Ri fun Z=>Qq rfl (qEF rfl)<|Na rfl Z<|cw_false rfl<|Ri fun Z=>Qq rfl (qET rfl)<|Na rfl Z<|cw_true rfl<|Ri fun Z=>Qc 2 rfl (BD hs3 hb1 rfl)<|Qf 5 rfl<|Qc 4 rfl (OD hoh rfl) ?_
 have hT:=hT.t hs3
 refine Ca rfl ((hc _ _ hT.le hs3.sat).mono ?_)
 rintro _ w4 ⟨x2,y2,z2,a2,n2,c2,Mm,rfl,hs4,hm⟩
 have:=hs4.size
 refine Qm rfl<|Qe rfl<|Qe rfl ?_
 have hT:=hT.t hs4
 have:=hT.size
 refine Al (.agg #[(.int .i64 0),(.int .i64 0),(.slice none 0 0),(.int .i64 0)]) hs4.sat rfl fun bn w5 hs5 hon en=>?_
 have:=hs5.size
 have:=hon.1.lt
 refine St hs5.sat hon rfl fun w6 hs6 hon=>?_
 have:=hs6.size
 refine Nar rfl Z fun Z=>Qc 4 rfl (OD hon rfl)<|Qf 5 rfl ?_
 have hoh:=hoh.t hs4 |>.t hs5 |>.u hs6
 refine St hs6.sat hoh rfl fun w7 hs7 hoh=>?_
 have:=hs7.size
 replace hoh:Own w7 Mm bh [.int .i64 3, .int .i64 0, .int .i64 0, .slice none 0 0, .slice none 0 0, .int .i64 x2, .int .i64 y2, .slice a2 n2 c2, .int .i64 z2, .slice none 0 0, .bool false, .int .i64 0, .int .i64 0, .slice none 0 0, .bool false, .int .i64 0, .int .i64 0, .slice none 0 0] 46:=hoh
 refine Nx Z<|cw_region fun _ Z=>Qm rfl<|Qa rfl<|as_nil (Z _ _ ?_)
 refine hK3 _ _<|Ri fun Z=>Qc 18 rfl (OD hoh rfl)<|Qm rfl ?_
 have hor:=hor.t hs4 |>.t hs5 |>.u hs6 |>.u hs7
 refine St hs7.sat hor rfl fun w8 hs8 hor=>?_
 have:=hs8.size
 have hor:=hor.all rfl
 refine Na rfl Z<|cw_ret ?_
 have hT:=hT.t hs5 |>.o hs6 |>.o hs7 |>.o hs8
 exact ⟨_,(Rc 18 rfl (OD hor rfl) (Rt rfl)),_,_,_,_,_,_,_,rfl,hT,hm⟩
theorem r15_insert_4 {R:Raw→List Value→Prop} {cost:Nat} {a:Option Addr} {n c:Nat} {x0:El} (hs:Sat M w) (hc:∀ (w':World) (M':Mem mb),Le M M'→Sat M' w'→Dz 44 #[.agg (elc x0).toArray, .agg #[.slice a n c]] w' (fun v w''=>∃ (a':Option Addr) (n' c':Nat) (M'':Mem mb),v = .tuple #[.agg #[.slice a' n' c'],wv cost]∧Step Nope M' w' M'' w''∧R M'' [.slice a' n' c'])):
  Dz 21 #[.agg (elc x0).toArray, .agg #[.int .i64 4, .int .i64 0, .int .i64 0, .slice none 0 0, .slice none 0 0, .int .i64 0, .int .i64 0, .slice none 0 0, .int .i64 0, .slice a n c, .bool false, .int .i64 0, .int .i64 0, .slice none 0 0, .bool false, .int .i64 0, .int .i64 0, .slice none 0 0]] w (fun v w''=>∃ (a':Option Addr) (n' c':Nat) (M'':Mem mb),v = .tuple #[.agg #[.int .i64 4, .int .i64 0, .int .i64 0, .slice none 0 0, .slice none 0 0, .int .i64 0, .int .i64 0, .slice none 0 0, .int .i64 0, .slice a' n' c', .bool false, .int .i64 0, .int .i64 0, .slice none 0 0, .bool false, .int .i64 0, .int .i64 0, .slice none 0 0],wv cost]∧Step Nope M w M'' w''∧R M'' [.slice a' n' c']):=by
 have hT:=hs.r
 refine Fe Tryz.func21 [.cell 4 46, .tmp 5] rfl<|Ri fun Z=>Bm hs rfl fun b1 M1 w1 hs1 hb1 e1=>?_
 have:=hs1.size
 have hT:=hT.t hs1
 have:=hT.size
 refine Bo hs1.sat rfl fun bh w2 hs2 hoh eh=>?_
 have:=hs2.size
 have:=hoh.1.lt
 have hT:=hT.t hs2
 have:=hT.size
 refine Al (.agg #[(.int .i64 0),(.int .i64 0),(.int .i64 0),(.slice none 0 0),(.slice none 0 0),(.int .i64 0),(.int .i64 0),(.slice none 0 0),(.int .i64 0),(.slice none 0 0),(.bool false),(.int .i64 0),(.int .i64 0),(.slice none 0 0),(.bool false),(.int .i64 0),(.int .i64 0),(.slice none 0 0)]) hs2.sat rfl fun br w3 hs3 hor er=>?_
 have:=hs3.size
 have:=hor.1.lt
 refine Nar rfl Z fun Z=>Na rfl Z<|cw_seq fun _ hK3=>Ri fun Z=>Qf 0 rfl ?_
 have hoh:=hoh.t hs3
 refine Q1 rfl (OC hoh rfl)<|Nx Z<|cw_block<|Ri fun Z=>Qq rfl (qEF rfl)<|Na rfl Z<|cw_false rfl<|Ri fun Z=>Qq rfl (qEF rfl)<|Na rfl Z<|cw_false rfl<|Ri fun Z=>Qq rfl (qEF rfl)<|Na rfl Z<|cw_false rfl<|Ri fun Z=>Qq rfl (qET rfl)<|Na rfl Z<|cw_true rfl<|Ri fun Z=>Qc 2 rfl (BD hs3 hb1 rfl)<|Qf 9 rfl<|Qc 1 rfl (OD hoh rfl) ?_
 have hT:=hT.t hs3
 refine Ca rfl ((hc _ _ hT.le hs3.sat).mono ?_)
 rintro _ w4 ⟨a2,n2,c2,Mm,rfl,hs4,hm⟩
 have:=hs4.size
 refine Qm rfl<|Qe rfl<|Qe rfl ?_
 have hT:=hT.t hs4
 have:=hT.size
 refine Al (.agg #[(.slice none 0 0)]) hs4.sat rfl fun bn w5 hs5 hon en=>?_
 have:=hs5.size
 have:=hon.1.lt
 refine St hs5.sat hon rfl fun w6 hs6 hon=>?_
 have:=hs6.size
 refine Nar rfl Z fun Z=>Qc 1 rfl (OD hon rfl)<|Qf 9 rfl ?_
 have hoh:=hoh.t hs4 |>.t hs5 |>.u hs6
 refine St hs6.sat hoh rfl fun w7 hs7 hoh=>?_
 have:=hs7.size
 replace hoh:Own w7 Mm bh [.int .i64 4, .int .i64 0, .int .i64 0, .slice none 0 0, .slice none 0 0, .int .i64 0, .int .i64 0, .slice none 0 0, .int .i64 0, .slice a2 n2 c2, .bool false, .int .i64 0, .int .i64 0, .slice none 0 0, .bool false, .int .i64 0, .int .i64 0, .slice none 0 0] 46:=hoh
 refine Nx Z<|cw_region fun _ Z=>Qm rfl<|Qa rfl<|as_nil (Z _ _ ?_)
 refine hK3 _ _<|Ri fun Z=>Qc 18 rfl (OD hoh rfl)<|Qm rfl ?_
 have hor:=hor.t hs4 |>.t hs5 |>.u hs6 |>.u hs7
 refine St hs7.sat hor rfl fun w8 hs8 hor=>?_
 have:=hs8.size
 have hor:=hor.all rfl
 refine Na rfl Z<|cw_ret ?_
 have hT:=hT.t hs5 |>.o hs6 |>.o hs7 |>.o hs8
 exact ⟨_,(Rc 18 rfl (OD hor rfl) (Rt rfl)),_,_,_,_,rfl,hT,hm⟩
theorem r15_insert_5 {R:Raw→List Value→Prop} {cost:Nat} {b:Bool} {x y:Int} {a:Option Addr} {n c:Nat} {x0:El} (hs:Sat M w) (hc:∀ (w':World) (M':Mem mb),Le M M'→Sat M' w'→Dz 45 #[.agg (elc x0).toArray, .agg #[.bool b, .int .i64 x, .int .i64 y, .slice a n c]] w' (fun v w''=>∃ (b':Bool) (x' y':Int) (a':Option Addr) (n' c':Nat) (M'':Mem mb),v = .tuple #[.agg #[.bool b', .int .i64 x', .int .i64 y', .slice a' n' c'],wv cost]∧Step Nope M' w' M'' w''∧R M'' [.bool b', .int .i64 x', .int .i64 y', .slice a' n' c'])):
  Dz 21 #[.agg (elc x0).toArray, .agg #[.int .i64 5, .int .i64 0, .int .i64 0, .slice none 0 0, .slice none 0 0, .int .i64 0, .int .i64 0, .slice none 0 0, .int .i64 0, .slice none 0 0, .bool b, .int .i64 x, .int .i64 y, .slice a n c, .bool false, .int .i64 0, .int .i64 0, .slice none 0 0]] w (fun v w''=>∃ (b':Bool) (x' y':Int) (a':Option Addr) (n' c':Nat) (M'':Mem mb),v = .tuple #[.agg #[.int .i64 5, .int .i64 0, .int .i64 0, .slice none 0 0, .slice none 0 0, .int .i64 0, .int .i64 0, .slice none 0 0, .int .i64 0, .slice none 0 0, .bool b', .int .i64 x', .int .i64 y', .slice a' n' c', .bool false, .int .i64 0, .int .i64 0, .slice none 0 0],wv cost]∧Step Nope M w M'' w''∧R M'' [.bool b', .int .i64 x', .int .i64 y', .slice a' n' c']):=by
 have hT:=hs.r
 refine Fe Tryz.func21 [.cell 4 46, .tmp 5] rfl<|Ri fun Z=>Bm hs rfl fun b1 M1 w1 hs1 hb1 e1=>?_
 have:=hs1.size
 have hT:=hT.t hs1
 have:=hT.size
 refine Bo hs1.sat rfl fun bh w2 hs2 hoh eh=>?_
 have:=hs2.size
 have:=hoh.1.lt
 have hT:=hT.t hs2
 have:=hT.size
 refine Al (.agg #[(.int .i64 0),(.int .i64 0),(.int .i64 0),(.slice none 0 0),(.slice none 0 0),(.int .i64 0),(.int .i64 0),(.slice none 0 0),(.int .i64 0),(.slice none 0 0),(.bool false),(.int .i64 0),(.int .i64 0),(.slice none 0 0),(.bool false),(.int .i64 0),(.int .i64 0),(.slice none 0 0)]) hs2.sat rfl fun br w3 hs3 hor er=>?_
 have:=hs3.size
 have:=hor.1.lt
 refine Nar rfl Z fun Z=>Na rfl Z<|cw_seq fun _ hK3=>Ri fun Z=>Qf 0 rfl ?_
 have hoh:=hoh.t hs3
 refine Q1 rfl (OC hoh rfl)<|Nx Z<|cw_block<|Ri fun Z=>Qq rfl (qEF rfl)<|Na rfl Z<|cw_false rfl<|Ri fun Z=>Qq rfl (qEF rfl)<|Na rfl Z<|cw_false rfl<|Ri fun Z=>Qq rfl (qEF rfl)<|Na rfl Z<|cw_false rfl<|Ri fun Z=>Qq rfl (qEF rfl)<|Na rfl Z<|cw_false rfl<|Ri fun Z=>Qq rfl (qET rfl)<|Na rfl Z<|cw_true rfl<|Ri fun Z=>Qc 2 rfl (BD hs3 hb1 rfl)<|Qf 10 rfl<|Qc 4 rfl (OD hoh rfl) ?_
 have hT:=hT.t hs3
 refine Ca rfl ((hc _ _ hT.le hs3.sat).mono ?_)
 rintro _ w4 ⟨b2,x2,y2,a2,n2,c2,Mm,rfl,hs4,hm⟩
 have:=hs4.size
 refine Qm rfl<|Qe rfl<|Qe rfl ?_
 have hT:=hT.t hs4
 have:=hT.size
 refine Al (.agg #[(.bool false),(.int .i64 0),(.int .i64 0),(.slice none 0 0)]) hs4.sat rfl fun bn w5 hs5 hon en=>?_
 have:=hs5.size
 have:=hon.1.lt
 refine St hs5.sat hon rfl fun w6 hs6 hon=>?_
 have:=hs6.size
 refine Nar rfl Z fun Z=>Qc 4 rfl (OD hon rfl)<|Qf 10 rfl ?_
 have hoh:=hoh.t hs4 |>.t hs5 |>.u hs6
 refine St hs6.sat hoh rfl fun w7 hs7 hoh=>?_
 have:=hs7.size
 replace hoh:Own w7 Mm bh [.int .i64 5, .int .i64 0, .int .i64 0, .slice none 0 0, .slice none 0 0, .int .i64 0, .int .i64 0, .slice none 0 0, .int .i64 0, .slice none 0 0, .bool b2, .int .i64 x2, .int .i64 y2, .slice a2 n2 c2, .bool false, .int .i64 0, .int .i64 0, .slice none 0 0] 46:=hoh
 refine Nx Z<|cw_region fun _ Z=>Qm rfl<|Qa rfl<|as_nil (Z _ _ ?_)
 refine hK3 _ _<|Ri fun Z=>Qc 18 rfl (OD hoh rfl)<|Qm rfl ?_
 have hor:=hor.t hs4 |>.t hs5 |>.u hs6 |>.u hs7
 refine St hs7.sat hor rfl fun w8 hs8 hor=>?_
 have:=hs8.size
 have hor:=hor.all rfl
 refine Na rfl Z<|cw_ret ?_
 have hT:=hT.t hs5 |>.o hs6 |>.o hs7 |>.o hs8
 exact ⟨_,(Rc 18 rfl (OD hor rfl) (Rt rfl)),_,_,_,_,_,_,_,rfl,hT,hm⟩
theorem r15_insert_6 {R:Raw→List Value→Prop} {cost:Nat} {b:Bool} {x y:Int} {a:Option Addr} {n c:Nat} {x0:El} (hs:Sat M w) (hc:∀ (w':World) (M':Mem mb),Le M M'→Sat M' w'→Dz 46 #[.agg (elc x0).toArray, .agg #[.bool b, .int .i64 x, .int .i64 y, .slice a n c]] w' (fun v w''=>∃ (b':Bool) (x' y':Int) (a':Option Addr) (n' c':Nat) (M'':Mem mb),v = .tuple #[.agg #[.bool b', .int .i64 x', .int .i64 y', .slice a' n' c'],wv cost]∧Step Nope M' w' M'' w''∧R M'' [.bool b', .int .i64 x', .int .i64 y', .slice a' n' c'])):
  Dz 21 #[.agg (elc x0).toArray, .agg #[.int .i64 6, .int .i64 0, .int .i64 0, .slice none 0 0, .slice none 0 0, .int .i64 0, .int .i64 0, .slice none 0 0, .int .i64 0, .slice none 0 0, .bool false, .int .i64 0, .int .i64 0, .slice none 0 0, .bool b, .int .i64 x, .int .i64 y, .slice a n c]] w (fun v w''=>∃ (b':Bool) (x' y':Int) (a':Option Addr) (n' c':Nat) (M'':Mem mb),v = .tuple #[.agg #[.int .i64 6, .int .i64 0, .int .i64 0, .slice none 0 0, .slice none 0 0, .int .i64 0, .int .i64 0, .slice none 0 0, .int .i64 0, .slice none 0 0, .bool false, .int .i64 0, .int .i64 0, .slice none 0 0, .bool b', .int .i64 x', .int .i64 y', .slice a' n' c'],wv cost]∧Step Nope M w M'' w''∧R M'' [.bool b', .int .i64 x', .int .i64 y', .slice a' n' c']):=by
 have hT:=hs.r
 refine Fe Tryz.func21 [.cell 4 46, .tmp 5] rfl<|Ri fun Z=>Bm hs rfl fun b1 M1 w1 hs1 hb1 e1=>?_
 have:=hs1.size
 have hT:=hT.t hs1
 have:=hT.size
 refine Bo hs1.sat rfl fun bh w2 hs2 hoh eh=>?_
 have:=hs2.size
 have:=hoh.1.lt
 have hT:=hT.t hs2
 have:=hT.size
 refine Al (.agg #[(.int .i64 0),(.int .i64 0),(.int .i64 0),(.slice none 0 0),(.slice none 0 0),(.int .i64 0),(.int .i64 0),(.slice none 0 0),(.int .i64 0),(.slice none 0 0),(.bool false),(.int .i64 0),(.int .i64 0),(.slice none 0 0),(.bool false),(.int .i64 0),(.int .i64 0),(.slice none 0 0)]) hs2.sat rfl fun br w3 hs3 hor er=>?_
 have:=hs3.size
 have:=hor.1.lt
 refine Nar rfl Z fun Z=>Na rfl Z<|cw_seq fun _ hK3=>Ri fun Z=>Qf 0 rfl ?_
 have hoh:=hoh.t hs3
 refine Q1 rfl (OC hoh rfl)<|Nx Z<|cw_block<|Ri fun Z=>Qq rfl (qEF rfl)<|Na rfl Z<|cw_false rfl<|Ri fun Z=>Qq rfl (qEF rfl)<|Na rfl Z<|cw_false rfl<|Ri fun Z=>Qq rfl (qEF rfl)<|Na rfl Z<|cw_false rfl<|Ri fun Z=>Qq rfl (qEF rfl)<|Na rfl Z<|cw_false rfl<|Ri fun Z=>Qq rfl (qEF rfl)<|Na rfl Z<|cw_false rfl<|Ri fun Z=>Qq rfl (qET rfl)<|Na rfl Z<|cw_true rfl<|Ri fun Z=>Qc 2 rfl (BD hs3 hb1 rfl)<|Qf 14 rfl<|Qc 4 rfl (OD hoh rfl) ?_
 have hT:=hT.t hs3
 refine Ca rfl ((hc _ _ hT.le hs3.sat).mono ?_)
 rintro _ w4 ⟨b2,x2,y2,a2,n2,c2,Mm,rfl,hs4,hm⟩
 have:=hs4.size
 refine Qm rfl<|Qe rfl<|Qe rfl ?_
 have hT:=hT.t hs4
 have:=hT.size
 refine Al (.agg #[(.bool false),(.int .i64 0),(.int .i64 0),(.slice none 0 0)]) hs4.sat rfl fun bn w5 hs5 hon en=>?_
 have:=hs5.size
 have:=hon.1.lt
 refine St hs5.sat hon rfl fun w6 hs6 hon=>?_
 have:=hs6.size
 refine Nar rfl Z fun Z=>Qc 4 rfl (OD hon rfl)<|Qf 14 rfl ?_
 have hoh:=hoh.t hs4 |>.t hs5 |>.u hs6
 refine St hs6.sat hoh rfl fun w7 hs7 hoh=>?_
 have:=hs7.size
 replace hoh:Own w7 Mm bh [.int .i64 6, .int .i64 0, .int .i64 0, .slice none 0 0, .slice none 0 0, .int .i64 0, .int .i64 0, .slice none 0 0, .int .i64 0, .slice none 0 0, .bool false, .int .i64 0, .int .i64 0, .slice none 0 0, .bool b2, .int .i64 x2, .int .i64 y2, .slice a2 n2 c2] 46:=hoh
 refine Nx Z<|cw_region fun _ Z=>Qm rfl<|Qa rfl<|as_nil (Z _ _ ?_)
 refine hK3 _ _<|Ri fun Z=>Qc 18 rfl (OD hoh rfl)<|Qm rfl ?_
 have hor:=hor.t hs4 |>.t hs5 |>.u hs6 |>.u hs7
 refine St hs7.sat hor rfl fun w8 hs8 hor=>?_
 have:=hs8.size
 have hor:=hor.all rfl
 refine Na rfl Z<|cw_ret ?_
 have hT:=hT.t hs5 |>.o hs6 |>.o hs7 |>.o hs8
 exact ⟨_,(Rc 18 rfl (OD hor rfl) (Rt rfl)),_,_,_,_,_,_,_,rfl,hT,hm⟩
end Go.Proofs.YtnnldppehojffaaGreat
/- The reference of any kind, part 2. -/
namespace Go.Proofs.YtnnldppehojffaaGreat
open Go Go.Eng
variable {mb:Option Nat} {w:World} {M:Mem mb}
theorem r15_meld_1 {R:Raw→List Value→Prop} {cost:Nat} {x y:Int} {a:Option Addr} {n c:Nat} {x9 y9:Int} {a9:Option Addr} {n9 c9:Nat} (hs:Sat M w) (hc:∀ (w':World) (M':Mem mb),Le M M'→Sat M' w'→Dz 47 #[.agg #[.int .i64 x, .int .i64 y, .slice a n c], .agg #[.int .i64 x9, .int .i64 y9, .slice a9 n9 c9]] w' (fun v w''=>∃ (x' y':Int) (a':Option Addr) (n' c':Nat) (M'':Mem mb),v = .tuple #[.agg #[.int .i64 x', .int .i64 y', .slice a' n' c'],wv cost]∧Step Nope M' w' M'' w''∧R M'' [.int .i64 x', .int .i64 y', .slice a' n' c'])):
  Dz 22 #[.agg #[.int .i64 1, .int .i64 x, .int .i64 y, .slice a n c, .slice none 0 0, .int .i64 0, .int .i64 0, .slice none 0 0, .int .i64 0, .slice none 0 0, .bool false, .int .i64 0, .int .i64 0, .slice none 0 0, .bool false, .int .i64 0, .int .i64 0, .slice none 0 0], .agg #[.int .i64 1, .int .i64 x9, .int .i64 y9, .slice a9 n9 c9, .slice none 0 0, .int .i64 0, .int .i64 0, .slice none 0 0, .int .i64 0, .slice none 0 0, .bool false, .int .i64 0, .int .i64 0, .slice none 0 0, .bool false, .int .i64 0, .int .i64 0, .slice none 0 0]] w (fun v w''=>∃ (x' y':Int) (a':Option Addr) (n' c':Nat) (M'':Mem mb),v = .tuple #[.agg #[.int .i64 1, .int .i64 x', .int .i64 y', .slice a' n' c', .slice none 0 0, .int .i64 0, .int .i64 0, .slice none 0 0, .int .i64 0, .slice none 0 0, .bool false, .int .i64 0, .int .i64 0, .slice none 0 0, .bool false, .int .i64 0, .int .i64 0, .slice none 0 0],wv cost]∧Step Nope M w M'' w''∧R M'' [.int .i64 x', .int .i64 y', .slice a' n' c']):=by
 have hT:=hs.r
 refine Fe Tryz.func22 [.cell 4 46, .tmp 5] rfl<|Ri fun Z=>?_
 have:=hT.size
 refine Bo hs rfl fun bh w1 hs1 hoh eh=>?_
 have:=hs1.size
 have:=hoh.1.lt
 refine Bm hs1.sat rfl fun b2 M2 w2 hs2 hb2 e2=>?_
 have:=hs2.size
 have hT:=hT.t hs1 |>.t hs2
 have:=hT.size
 refine Al (.agg #[(.int .i64 0),(.int .i64 0),(.int .i64 0),(.slice none 0 0),(.slice none 0 0),(.int .i64 0),(.int .i64 0),(.slice none 0 0),(.int .i64 0),(.slice none 0 0),(.bool false),(.int .i64 0),(.int .i64 0),(.slice none 0 0),(.bool false),(.int .i64 0),(.int .i64 0),(.slice none 0 0)]) hs2.sat rfl fun br w3 hs3 hor er=>?_
 have:=hs3.size
 have:=hor.1.lt
 refine Nar rfl Z fun Z=>Na rfl Z<|cw_seq fun _ hK3=>Ri fun Z=>Qf 0 rfl ?_
 have hoh:=hoh.t hs2 |>.t hs3
 refine Q1 rfl (OC hoh rfl)<|Nx Z<|cw_block<|Ri fun Z=>Qq rfl (qET rfl)<|Na rfl Z<|cw_true rfl<|Ri fun Z=>Qf 1 rfl<|Qc 3 rfl (OD hoh rfl)<|Qf 1 rfl<|Qc 3 rfl (BD hs3 hb2 rfl) ?_
 have hT:=hT.t hs3
 refine Ca rfl ((hc _ _ hT.le hs3.sat).mono ?_)
 rintro _ w4 ⟨x2,y2,a2,n2,c2,Mm,rfl,hs4,hm⟩
 have:=hs4.size
 refine Qm rfl<|Qe rfl<|Qe rfl ?_
 have hT:=hT.t hs4
 have:=hT.size
 refine Al (.agg #[(.int .i64 0),(.int .i64 0),(.slice none 0 0)]) hs4.sat rfl fun bn w5 hs5 hon en=>?_
 have:=hs5.size
 have:=hon.1.lt
 refine St hs5.sat hon rfl fun w6 hs6 hon=>?_
 have:=hs6.size
 refine Nar rfl Z fun Z=>Qc 3 rfl (OD hon rfl)<|Qf 1 rfl ?_
 have hoh:=hoh.t hs4 |>.t hs5 |>.u hs6
 refine St hs6.sat hoh rfl fun w7 hs7 hoh=>?_
 have:=hs7.size
 replace hoh:Own w7 Mm bh [.int .i64 1, .int .i64 x2, .int .i64 y2, .slice a2 n2 c2, .slice none 0 0, .int .i64 0, .int .i64 0, .slice none 0 0, .int .i64 0, .slice none 0 0, .bool false, .int .i64 0, .int .i64 0, .slice none 0 0, .bool false, .int .i64 0, .int .i64 0, .slice none 0 0] 46:=hoh
 refine Nx Z<|cw_region fun _ Z=>Qm rfl<|Qa rfl<|as_nil (Z _ _ ?_)
 refine hK3 _ _<|Ri fun Z=>Qc 18 rfl (OD hoh rfl)<|Qm rfl ?_
 have hor:=hor.t hs4 |>.t hs5 |>.u hs6 |>.u hs7
 refine St hs7.sat hor rfl fun w8 hs8 hor=>?_
 have:=hs8.size
 have hor:=hor.all rfl
 refine Na rfl Z<|cw_ret ?_
 have hT:=hT.t hs5 |>.o hs6 |>.o hs7 |>.o hs8
 exact ⟨_,(Rc 18 rfl (OD hor rfl) (Rt rfl)),_,_,_,_,_,_,rfl,hT,hm⟩
theorem r15_meld_2 {R:Raw→List Value→Prop} {cost:Nat} {a:Option Addr} {n c:Nat} {a9:Option Addr} {n9 c9:Nat} (hs:Sat M w) (hc:∀ (w':World) (M':Mem mb),Le M M'→Sat M' w'→Dz 48 #[.agg #[.slice a n c], .agg #[.slice a9 n9 c9]] w' (fun v w''=>∃ (a':Option Addr) (n' c':Nat) (M'':Mem mb),v = .tuple #[.agg #[.slice a' n' c'],wv cost]∧Step Nope M' w' M'' w''∧R M'' [.slice a' n' c'])):
  Dz 22 #[.agg #[.int .i64 2, .int .i64 0, .int .i64 0, .slice none 0 0, .slice a n c, .int .i64 0, .int .i64 0, .slice none 0 0, .int .i64 0, .slice none 0 0, .bool false, .int .i64 0, .int .i64 0, .slice none 0 0, .bool false, .int .i64 0, .int .i64 0, .slice none 0 0], .agg #[.int .i64 2, .int .i64 0, .int .i64 0, .slice none 0 0, .slice a9 n9 c9, .int .i64 0, .int .i64 0, .slice none 0 0, .int .i64 0, .slice none 0 0, .bool false, .int .i64 0, .int .i64 0, .slice none 0 0, .bool false, .int .i64 0, .int .i64 0, .slice none 0 0]] w (fun v w''=>∃ (a':Option Addr) (n' c':Nat) (M'':Mem mb),v = .tuple #[.agg #[.int .i64 2, .int .i64 0, .int .i64 0, .slice none 0 0, .slice a' n' c', .int .i64 0, .int .i64 0, .slice none 0 0, .int .i64 0, .slice none 0 0, .bool false, .int .i64 0, .int .i64 0, .slice none 0 0, .bool false, .int .i64 0, .int .i64 0, .slice none 0 0],wv cost]∧Step Nope M w M'' w''∧R M'' [.slice a' n' c']):=by
 have hT:=hs.r
 refine Fe Tryz.func22 [.cell 4 46, .tmp 5] rfl<|Ri fun Z=>?_
 have:=hT.size
 refine Bo hs rfl fun bh w1 hs1 hoh eh=>?_
 have:=hs1.size
 have:=hoh.1.lt
 refine Bm hs1.sat rfl fun b2 M2 w2 hs2 hb2 e2=>?_
 have:=hs2.size
 have hT:=hT.t hs1 |>.t hs2
 have:=hT.size
 refine Al (.agg #[(.int .i64 0),(.int .i64 0),(.int .i64 0),(.slice none 0 0),(.slice none 0 0),(.int .i64 0),(.int .i64 0),(.slice none 0 0),(.int .i64 0),(.slice none 0 0),(.bool false),(.int .i64 0),(.int .i64 0),(.slice none 0 0),(.bool false),(.int .i64 0),(.int .i64 0),(.slice none 0 0)]) hs2.sat rfl fun br w3 hs3 hor er=>?_
 have:=hs3.size
 have:=hor.1.lt
 refine Nar rfl Z fun Z=>Na rfl Z<|cw_seq fun _ hK3=>Ri fun Z=>Qf 0 rfl ?_
 have hoh:=hoh.t hs2 |>.t hs3
 refine Q1 rfl (OC hoh rfl)<|Nx Z<|cw_block<|Ri fun Z=>Qq rfl (qEF rfl)<|Na rfl Z<|cw_false rfl<|Ri fun Z=>Qq rfl (qET rfl)<|Na rfl Z<|cw_true rfl<|Ri fun Z=>Qf 4 rfl<|Qc 1 rfl (OD hoh rfl)<|Qf 4 rfl<|Qc 1 rfl (BD hs3 hb2 rfl) ?_
 have hT:=hT.t hs3
 refine Ca rfl ((hc _ _ hT.le hs3.sat).mono ?_)
 rintro _ w4 ⟨a2,n2,c2,Mm,rfl,hs4,hm⟩
 have:=hs4.size
 refine Qm rfl<|Qe rfl<|Qe rfl ?_
 have hT:=hT.t hs4
 have:=hT.size
 refine Al (.agg #[(.slice none 0 0)]) hs4.sat rfl fun bn w5 hs5 hon en=>?_
 have:=hs5.size
 have:=hon.1.lt
 refine St hs5.sat hon rfl fun w6 hs6 hon=>?_
 have:=hs6.size
 refine Nar rfl Z fun Z=>Qc 1 rfl (OD hon rfl)<|Qf 4 rfl ?_
 have hoh:=hoh.t hs4 |>.t hs5 |>.u hs6
 refine St hs6.sat hoh rfl fun w7 hs7 hoh=>?_
 have:=hs7.size
 replace hoh:Own w7 Mm bh [.int .i64 2, .int .i64 0, .int .i64 0, .slice none 0 0, .slice a2 n2 c2, .int .i64 0, .int .i64 0, .slice none 0 0, .int .i64 0, .slice none 0 0, .bool false, .int .i64 0, .int .i64 0, .slice none 0 0, .bool false, .int .i64 0, .int .i64 0, .slice none 0 0] 46:=hoh
 refine Nx Z<|cw_region fun _ Z=>Qm rfl<|Qa rfl<|as_nil (Z _ _ ?_)
 refine hK3 _ _<|Ri fun Z=>Qc 18 rfl (OD hoh rfl)<|Qm rfl ?_
 have hor:=hor.t hs4 |>.t hs5 |>.u hs6 |>.u hs7
 refine St hs7.sat hor rfl fun w8 hs8 hor=>?_
 have:=hs8.size
 have hor:=hor.all rfl
 refine Na rfl Z<|cw_ret ?_
 have hT:=hT.t hs5 |>.o hs6 |>.o hs7 |>.o hs8
 exact ⟨_,(Rc 18 rfl (OD hor rfl) (Rt rfl)),_,_,_,_,rfl,hT,hm⟩
theorem r15_meld_3 {R:Raw→List Value→Prop} {cost:Nat} {x y z:Int} {a:Option Addr} {n c:Nat} {x9 y9 z9:Int} {a9:Option Addr} {n9 c9:Nat} (hs:Sat M w) (hc:∀ (w':World) (M':Mem mb),Le M M'→Sat M' w'→Dz 49 #[.agg #[.int .i64 x, .int .i64 y, .slice a n c, .int .i64 z], .agg #[.int .i64 x9, .int .i64 y9, .slice a9 n9 c9, .int .i64 z9]] w' (fun v w''=>∃ (x' y' z':Int) (a':Option Addr) (n' c':Nat) (M'':Mem mb),v = .tuple #[.agg #[.int .i64 x', .int .i64 y', .slice a' n' c', .int .i64 z'],wv cost]∧Step Nope M' w' M'' w''∧R M'' [.int .i64 x', .int .i64 y', .slice a' n' c', .int .i64 z'])):
  Dz 22 #[.agg #[.int .i64 3, .int .i64 0, .int .i64 0, .slice none 0 0, .slice none 0 0, .int .i64 x, .int .i64 y, .slice a n c, .int .i64 z, .slice none 0 0, .bool false, .int .i64 0, .int .i64 0, .slice none 0 0, .bool false, .int .i64 0, .int .i64 0, .slice none 0 0], .agg #[.int .i64 3, .int .i64 0, .int .i64 0, .slice none 0 0, .slice none 0 0, .int .i64 x9, .int .i64 y9, .slice a9 n9 c9, .int .i64 z9, .slice none 0 0, .bool false, .int .i64 0, .int .i64 0, .slice none 0 0, .bool false, .int .i64 0, .int .i64 0, .slice none 0 0]] w (fun v w''=>∃ (x' y' z':Int) (a':Option Addr) (n' c':Nat) (M'':Mem mb),v = .tuple #[.agg #[.int .i64 3, .int .i64 0, .int .i64 0, .slice none 0 0, .slice none 0 0, .int .i64 x', .int .i64 y', .slice a' n' c', .int .i64 z', .slice none 0 0, .bool false, .int .i64 0, .int .i64 0, .slice none 0 0, .bool false, .int .i64 0, .int .i64 0, .slice none 0 0],wv cost]∧Step Nope M w M'' w''∧R M'' [.int .i64 x', .int .i64 y', .slice a' n' c', .int .i64 z']):=by
 have hT:=hs.r
 refine Fe Tryz.func22 [.cell 4 46, .tmp 5] rfl<|Ri fun Z=>?_
 have:=hT.size
 refine Bo hs rfl fun bh w1 hs1 hoh eh=>?_
 have:=hs1.size
 have:=hoh.1.lt
 refine Bm hs1.sat rfl fun b2 M2 w2 hs2 hb2 e2=>?_
 have:=hs2.size
 have hT:=hT.t hs1 |>.t hs2
 have:=hT.size
 refine Al (.agg #[(.int .i64 0),(.int .i64 0),(.int .i64 0),(.slice none 0 0),(.slice none 0 0),(.int .i64 0),(.int .i64 0),(.slice none 0 0),(.int .i64 0),(.slice none 0 0),(.bool false),(.int .i64 0),(.int .i64 0),(.slice none 0 0),(.bool false),(.int .i64 0),(.int .i64 0),(.slice none 0 0)]) hs2.sat rfl fun br w3 hs3 hor er=>?_
 have:=hs3.size
 have:=hor.1.lt
 refine Nar rfl Z fun Z=>Na rfl Z<|cw_seq fun _ hK3=>Ri fun Z=>Qf 0 rfl ?_
 have hoh:=hoh.t hs2 |>.t hs3
 refine Q1 rfl (OC hoh rfl)<|Nx Z<|cw_block<|Ri fun Z=>Qq rfl (qEF rfl)<|Na rfl Z<|cw_false rfl<|Ri fun Z=>Qq rfl (qEF rfl)<|Na rfl Z<|cw_false rfl<|Ri fun Z=>Qq rfl (qET rfl)<|Na rfl Z<|cw_true rfl<|Ri fun Z=>Qf 5 rfl<|Qc 4 rfl (OD hoh rfl)<|Qf 5 rfl<|Qc 4 rfl (BD hs3 hb2 rfl) ?_
 have hT:=hT.t hs3
 refine Ca rfl ((hc _ _ hT.le hs3.sat).mono ?_)
 rintro _ w4 ⟨x2,y2,z2,a2,n2,c2,Mm,rfl,hs4,hm⟩
 have:=hs4.size
 refine Qm rfl<|Qe rfl<|Qe rfl ?_
 have hT:=hT.t hs4
 have:=hT.size
 refine Al (.agg #[(.int .i64 0),(.int .i64 0),(.slice none 0 0),(.int .i64 0)]) hs4.sat rfl fun bn w5 hs5 hon en=>?_
 have:=hs5.size
 have:=hon.1.lt
 refine St hs5.sat hon rfl fun w6 hs6 hon=>?_
 have:=hs6.size
 refine Nar rfl Z fun Z=>Qc 4 rfl (OD hon rfl)<|Qf 5 rfl ?_
 have hoh:=hoh.t hs4 |>.t hs5 |>.u hs6
 refine St hs6.sat hoh rfl fun w7 hs7 hoh=>?_
 have:=hs7.size
 replace hoh:Own w7 Mm bh [.int .i64 3, .int .i64 0, .int .i64 0, .slice none 0 0, .slice none 0 0, .int .i64 x2, .int .i64 y2, .slice a2 n2 c2, .int .i64 z2, .slice none 0 0, .bool false, .int .i64 0, .int .i64 0, .slice none 0 0, .bool false, .int .i64 0, .int .i64 0, .slice none 0 0] 46:=hoh
 refine Nx Z<|cw_region fun _ Z=>Qm rfl<|Qa rfl<|as_nil (Z _ _ ?_)
 refine hK3 _ _<|Ri fun Z=>Qc 18 rfl (OD hoh rfl)<|Qm rfl ?_
 have hor:=hor.t hs4 |>.t hs5 |>.u hs6 |>.u hs7
 refine St hs7.sat hor rfl fun w8 hs8 hor=>?_
 have:=hs8.size
 have hor:=hor.all rfl
 refine Na rfl Z<|cw_ret ?_
 have hT:=hT.t hs5 |>.o hs6 |>.o hs7 |>.o hs8
 exact ⟨_,(Rc 18 rfl (OD hor rfl) (Rt rfl)),_,_,_,_,_,_,_,rfl,hT,hm⟩
theorem r15_meld_4 {R:Raw→List Value→Prop} {cost:Nat} {a:Option Addr} {n c:Nat} {a9:Option Addr} {n9 c9:Nat} (hs:Sat M w) (hc:∀ (w':World) (M':Mem mb),Le M M'→Sat M' w'→Dz 50 #[.agg #[.slice a n c], .agg #[.slice a9 n9 c9]] w' (fun v w''=>∃ (a':Option Addr) (n' c':Nat) (M'':Mem mb),v = .tuple #[.agg #[.slice a' n' c'],wv cost]∧Step Nope M' w' M'' w''∧R M'' [.slice a' n' c'])):
  Dz 22 #[.agg #[.int .i64 4, .int .i64 0, .int .i64 0, .slice none 0 0, .slice none 0 0, .int .i64 0, .int .i64 0, .slice none 0 0, .int .i64 0, .slice a n c, .bool false, .int .i64 0, .int .i64 0, .slice none 0 0, .bool false, .int .i64 0, .int .i64 0, .slice none 0 0], .agg #[.int .i64 4, .int .i64 0, .int .i64 0, .slice none 0 0, .slice none 0 0, .int .i64 0, .int .i64 0, .slice none 0 0, .int .i64 0, .slice a9 n9 c9, .bool false, .int .i64 0, .int .i64 0, .slice none 0 0, .bool false, .int .i64 0, .int .i64 0, .slice none 0 0]] w (fun v w''=>∃ (a':Option Addr) (n' c':Nat) (M'':Mem mb),v = .tuple #[.agg #[.int .i64 4, .int .i64 0, .int .i64 0, .slice none 0 0, .slice none 0 0, .int .i64 0, .int .i64 0, .slice none 0 0, .int .i64 0, .slice a' n' c', .bool false, .int .i64 0, .int .i64 0, .slice none 0 0, .bool false, .int .i64 0, .int .i64 0, .slice none 0 0],wv cost]∧Step Nope M w M'' w''∧R M'' [.slice a' n' c']):=by
 have hT:=hs.r
 refine Fe Tryz.func22 [.cell 4 46, .tmp 5] rfl<|Ri fun Z=>?_
 have:=hT.size
 refine Bo hs rfl fun bh w1 hs1 hoh eh=>?_
 have:=hs1.size
 have:=hoh.1.lt
 refine Bm hs1.sat rfl fun b2 M2 w2 hs2 hb2 e2=>?_
 have:=hs2.size
 have hT:=hT.t hs1 |>.t hs2
 have:=hT.size
 refine Al (.agg #[(.int .i64 0),(.int .i64 0),(.int .i64 0),(.slice none 0 0),(.slice none 0 0),(.int .i64 0),(.int .i64 0),(.slice none 0 0),(.int .i64 0),(.slice none 0 0),(.bool false),(.int .i64 0),(.int .i64 0),(.slice none 0 0),(.bool false),(.int .i64 0),(.int .i64 0),(.slice none 0 0)]) hs2.sat rfl fun br w3 hs3 hor er=>?_
 have:=hs3.size
 have:=hor.1.lt
 refine Nar rfl Z fun Z=>Na rfl Z<|cw_seq fun _ hK3=>Ri fun Z=>Qf 0 rfl ?_
 have hoh:=hoh.t hs2 |>.t hs3
 refine Q1 rfl (OC hoh rfl)<|Nx Z<|cw_block<|Ri fun Z=>Qq rfl (qEF rfl)<|Na rfl Z<|cw_false rfl<|Ri fun Z=>Qq rfl (qEF rfl)<|Na rfl Z<|cw_false rfl<|Ri fun Z=>Qq rfl (qEF rfl)<|Na rfl Z<|cw_false rfl<|Ri fun Z=>Qq rfl (qET rfl)<|Na rfl Z<|cw_true rfl<|Ri fun Z=>Qf 9 rfl<|Qc 1 rfl (OD hoh rfl)<|Qf 9 rfl<|Qc 1 rfl (BD hs3 hb2 rfl) ?_
 have hT:=hT.t hs3
 refine Ca rfl ((hc _ _ hT.le hs3.sat).mono ?_)
 rintro _ w4 ⟨a2,n2,c2,Mm,rfl,hs4,hm⟩
 have:=hs4.size
 refine Qm rfl<|Qe rfl<|Qe rfl ?_
 have hT:=hT.t hs4
 have:=hT.size
 refine Al (.agg #[(.slice none 0 0)]) hs4.sat rfl fun bn w5 hs5 hon en=>?_
 have:=hs5.size
 have:=hon.1.lt
 refine St hs5.sat hon rfl fun w6 hs6 hon=>?_
 have:=hs6.size
 refine Nar rfl Z fun Z=>Qc 1 rfl (OD hon rfl)<|Qf 9 rfl ?_
 have hoh:=hoh.t hs4 |>.t hs5 |>.u hs6
 refine St hs6.sat hoh rfl fun w7 hs7 hoh=>?_
 have:=hs7.size
 replace hoh:Own w7 Mm bh [.int .i64 4, .int .i64 0, .int .i64 0, .slice none 0 0, .slice none 0 0, .int .i64 0, .int .i64 0, .slice none 0 0, .int .i64 0, .slice a2 n2 c2, .bool false, .int .i64 0, .int .i64 0, .slice none 0 0, .bool false, .int .i64 0, .int .i64 0, .slice none 0 0] 46:=hoh
 refine Nx Z<|cw_region fun _ Z=>Qm rfl<|Qa rfl<|as_nil (Z _ _ ?_)
 refine hK3 _ _<|Ri fun Z=>Qc 18 rfl (OD hoh rfl)<|Qm rfl ?_
 have hor:=hor.t hs4 |>.t hs5 |>.u hs6 |>.u hs7
 refine St hs7.sat hor rfl fun w8 hs8 hor=>?_
 have:=hs8.size
 have hor:=hor.all rfl
 refine Na rfl Z<|cw_ret ?_
 have hT:=hT.t hs5 |>.o hs6 |>.o hs7 |>.o hs8
 exact ⟨_,(Rc 18 rfl (OD hor rfl) (Rt rfl)),_,_,_,_,rfl,hT,hm⟩
theorem r15_meld_5 {R:Raw→List Value→Prop} {cost:Nat} {b:Bool} {x y:Int} {a:Option Addr} {n c:Nat} {b9:Bool} {x9 y9:Int} {a9:Option Addr} {n9 c9:Nat} (hs:Sat M w) (hc:∀ (w':World) (M':Mem mb),Le M M'→Sat M' w'→Dz 51 #[.agg #[.bool b, .int .i64 x, .int .i64 y, .slice a n c], .agg #[.bool b9, .int .i64 x9, .int .i64 y9, .slice a9 n9 c9]] w' (fun v w''=>∃ (b':Bool) (x' y':Int) (a':Option Addr) (n' c':Nat) (M'':Mem mb),v = .tuple #[.agg #[.bool b', .int .i64 x', .int .i64 y', .slice a' n' c'],wv cost]∧Step Nope M' w' M'' w''∧R M'' [.bool b', .int .i64 x', .int .i64 y', .slice a' n' c'])):
  Dz 22 #[.agg #[.int .i64 5, .int .i64 0, .int .i64 0, .slice none 0 0, .slice none 0 0, .int .i64 0, .int .i64 0, .slice none 0 0, .int .i64 0, .slice none 0 0, .bool b, .int .i64 x, .int .i64 y, .slice a n c, .bool false, .int .i64 0, .int .i64 0, .slice none 0 0], .agg #[.int .i64 5, .int .i64 0, .int .i64 0, .slice none 0 0, .slice none 0 0, .int .i64 0, .int .i64 0, .slice none 0 0, .int .i64 0, .slice none 0 0, .bool b9, .int .i64 x9, .int .i64 y9, .slice a9 n9 c9, .bool false, .int .i64 0, .int .i64 0, .slice none 0 0]] w (fun v w''=>∃ (b':Bool) (x' y':Int) (a':Option Addr) (n' c':Nat) (M'':Mem mb),v = .tuple #[.agg #[.int .i64 5, .int .i64 0, .int .i64 0, .slice none 0 0, .slice none 0 0, .int .i64 0, .int .i64 0, .slice none 0 0, .int .i64 0, .slice none 0 0, .bool b', .int .i64 x', .int .i64 y', .slice a' n' c', .bool false, .int .i64 0, .int .i64 0, .slice none 0 0],wv cost]∧Step Nope M w M'' w''∧R M'' [.bool b', .int .i64 x', .int .i64 y', .slice a' n' c']):=by
 have hT:=hs.r
 refine Fe Tryz.func22 [.cell 4 46, .tmp 5] rfl<|Ri fun Z=>?_
 have:=hT.size
 refine Bo hs rfl fun bh w1 hs1 hoh eh=>?_
 have:=hs1.size
 have:=hoh.1.lt
 refine Bm hs1.sat rfl fun b2 M2 w2 hs2 hb2 e2=>?_
 have:=hs2.size
 have hT:=hT.t hs1 |>.t hs2
 have:=hT.size
 refine Al (.agg #[(.int .i64 0),(.int .i64 0),(.int .i64 0),(.slice none 0 0),(.slice none 0 0),(.int .i64 0),(.int .i64 0),(.slice none 0 0),(.int .i64 0),(.slice none 0 0),(.bool false),(.int .i64 0),(.int .i64 0),(.slice none 0 0),(.bool false),(.int .i64 0),(.int .i64 0),(.slice none 0 0)]) hs2.sat rfl fun br w3 hs3 hor er=>?_
 have:=hs3.size
 have:=hor.1.lt
 refine Nar rfl Z fun Z=>Na rfl Z<|cw_seq fun _ hK3=>Ri fun Z=>Qf 0 rfl ?_
 have hoh:=hoh.t hs2 |>.t hs3
 refine Q1 rfl (OC hoh rfl)<|Nx Z<|cw_block<|Ri fun Z=>Qq rfl (qEF rfl)<|Na rfl Z<|cw_false rfl<|Ri fun Z=>Qq rfl (qEF rfl)<|Na rfl Z<|cw_false rfl<|Ri fun Z=>Qq rfl (qEF rfl)<|Na rfl Z<|cw_false rfl<|Ri fun Z=>Qq rfl (qEF rfl)<|Na rfl Z<|cw_false rfl<|Ri fun Z=>Qq rfl (qET rfl)<|Na rfl Z<|cw_true rfl<|Ri fun Z=>Qf 10 rfl<|Qc 4 rfl (OD hoh rfl)<|Qf 10 rfl<|Qc 4 rfl (BD hs3 hb2 rfl) ?_
 have hT:=hT.t hs3
 refine Ca rfl ((hc _ _ hT.le hs3.sat).mono ?_)
 rintro _ w4 ⟨b2,x2,y2,a2,n2,c2,Mm,rfl,hs4,hm⟩
 have:=hs4.size
 refine Qm rfl<|Qe rfl<|Qe rfl ?_
 have hT:=hT.t hs4
 have:=hT.size
 refine Al (.agg #[(.bool false),(.int .i64 0),(.int .i64 0),(.slice none 0 0)]) hs4.sat rfl fun bn w5 hs5 hon en=>?_
 have:=hs5.size
 have:=hon.1.lt
 refine St hs5.sat hon rfl fun w6 hs6 hon=>?_
 have:=hs6.size
 refine Nar rfl Z fun Z=>Qc 4 rfl (OD hon rfl)<|Qf 10 rfl ?_
 have hoh:=hoh.t hs4 |>.t hs5 |>.u hs6
 refine St hs6.sat hoh rfl fun w7 hs7 hoh=>?_
 have:=hs7.size
 replace hoh:Own w7 Mm bh [.int .i64 5, .int .i64 0, .int .i64 0, .slice none 0 0, .slice none 0 0, .int .i64 0, .int .i64 0, .slice none 0 0, .int .i64 0, .slice none 0 0, .bool b2, .int .i64 x2, .int .i64 y2, .slice a2 n2 c2, .bool false, .int .i64 0, .int .i64 0, .slice none 0 0] 46:=hoh
 refine Nx Z<|cw_region fun _ Z=>Qm rfl<|Qa rfl<|as_nil (Z _ _ ?_)
 refine hK3 _ _<|Ri fun Z=>Qc 18 rfl (OD hoh rfl)<|Qm rfl ?_
 have hor:=hor.t hs4 |>.t hs5 |>.u hs6 |>.u hs7
 refine St hs7.sat hor rfl fun w8 hs8 hor=>?_
 have:=hs8.size
 have hor:=hor.all rfl
 refine Na rfl Z<|cw_ret ?_
 have hT:=hT.t hs5 |>.o hs6 |>.o hs7 |>.o hs8
 exact ⟨_,(Rc 18 rfl (OD hor rfl) (Rt rfl)),_,_,_,_,_,_,_,rfl,hT,hm⟩
theorem r15_meld_6 {R:Raw→List Value→Prop} {cost:Nat} {b:Bool} {x y:Int} {a:Option Addr} {n c:Nat} {b9:Bool} {x9 y9:Int} {a9:Option Addr} {n9 c9:Nat} (hs:Sat M w) (hc:∀ (w':World) (M':Mem mb),Le M M'→Sat M' w'→Dz 52 #[.agg #[.bool b, .int .i64 x, .int .i64 y, .slice a n c], .agg #[.bool b9, .int .i64 x9, .int .i64 y9, .slice a9 n9 c9]] w' (fun v w''=>∃ (b':Bool) (x' y':Int) (a':Option Addr) (n' c':Nat) (M'':Mem mb),v = .tuple #[.agg #[.bool b', .int .i64 x', .int .i64 y', .slice a' n' c'],wv cost]∧Step Nope M' w' M'' w''∧R M'' [.bool b', .int .i64 x', .int .i64 y', .slice a' n' c'])):
  Dz 22 #[.agg #[.int .i64 6, .int .i64 0, .int .i64 0, .slice none 0 0, .slice none 0 0, .int .i64 0, .int .i64 0, .slice none 0 0, .int .i64 0, .slice none 0 0, .bool false, .int .i64 0, .int .i64 0, .slice none 0 0, .bool b, .int .i64 x, .int .i64 y, .slice a n c], .agg #[.int .i64 6, .int .i64 0, .int .i64 0, .slice none 0 0, .slice none 0 0, .int .i64 0, .int .i64 0, .slice none 0 0, .int .i64 0, .slice none 0 0, .bool false, .int .i64 0, .int .i64 0, .slice none 0 0, .bool b9, .int .i64 x9, .int .i64 y9, .slice a9 n9 c9]] w (fun v w''=>∃ (b':Bool) (x' y':Int) (a':Option Addr) (n' c':Nat) (M'':Mem mb),v = .tuple #[.agg #[.int .i64 6, .int .i64 0, .int .i64 0, .slice none 0 0, .slice none 0 0, .int .i64 0, .int .i64 0, .slice none 0 0, .int .i64 0, .slice none 0 0, .bool false, .int .i64 0, .int .i64 0, .slice none 0 0, .bool b', .int .i64 x', .int .i64 y', .slice a' n' c'],wv cost]∧Step Nope M w M'' w''∧R M'' [.bool b', .int .i64 x', .int .i64 y', .slice a' n' c']):=by
 have hT:=hs.r
 refine Fe Tryz.func22 [.cell 4 46, .tmp 5] rfl<|Ri fun Z=>?_
 have:=hT.size
 refine Bo hs rfl fun bh w1 hs1 hoh eh=>?_
 have:=hs1.size
 have:=hoh.1.lt
 refine Bm hs1.sat rfl fun b2 M2 w2 hs2 hb2 e2=>?_
 have:=hs2.size
 have hT:=hT.t hs1 |>.t hs2
 have:=hT.size
 refine Al (.agg #[(.int .i64 0),(.int .i64 0),(.int .i64 0),(.slice none 0 0),(.slice none 0 0),(.int .i64 0),(.int .i64 0),(.slice none 0 0),(.int .i64 0),(.slice none 0 0),(.bool false),(.int .i64 0),(.int .i64 0),(.slice none 0 0),(.bool false),(.int .i64 0),(.int .i64 0),(.slice none 0 0)]) hs2.sat rfl fun br w3 hs3 hor er=>?_
 have:=hs3.size
 have:=hor.1.lt
 refine Nar rfl Z fun Z=>Na rfl Z<|cw_seq fun _ hK3=>Ri fun Z=>Qf 0 rfl ?_
 have hoh:=hoh.t hs2 |>.t hs3
 refine Q1 rfl (OC hoh rfl)<|Nx Z<|cw_block<|Ri fun Z=>Qq rfl (qEF rfl)<|Na rfl Z<|cw_false rfl<|Ri fun Z=>Qq rfl (qEF rfl)<|Na rfl Z<|cw_false rfl<|Ri fun Z=>Qq rfl (qEF rfl)<|Na rfl Z<|cw_false rfl<|Ri fun Z=>Qq rfl (qEF rfl)<|Na rfl Z<|cw_false rfl<|Ri fun Z=>Qq rfl (qEF rfl)<|Na rfl Z<|cw_false rfl<|Ri fun Z=>Qq rfl (qET rfl)<|Na rfl Z<|cw_true rfl<|Ri fun Z=>Qf 14 rfl<|Qc 4 rfl (OD hoh rfl)<|Qf 14 rfl<|Qc 4 rfl (BD hs3 hb2 rfl) ?_
 have hT:=hT.t hs3
 refine Ca rfl ((hc _ _ hT.le hs3.sat).mono ?_)
 rintro _ w4 ⟨b2,x2,y2,a2,n2,c2,Mm,rfl,hs4,hm⟩
 have:=hs4.size
 refine Qm rfl<|Qe rfl<|Qe rfl ?_
 have hT:=hT.t hs4
 have:=hT.size
 refine Al (.agg #[(.bool false),(.int .i64 0),(.int .i64 0),(.slice none 0 0)]) hs4.sat rfl fun bn w5 hs5 hon en=>?_
 have:=hs5.size
 have:=hon.1.lt
 refine St hs5.sat hon rfl fun w6 hs6 hon=>?_
 have:=hs6.size
 refine Nar rfl Z fun Z=>Qc 4 rfl (OD hon rfl)<|Qf 14 rfl ?_
 have hoh:=hoh.t hs4 |>.t hs5 |>.u hs6
 refine St hs6.sat hoh rfl fun w7 hs7 hoh=>?_
 have:=hs7.size
 replace hoh:Own w7 Mm bh [.int .i64 6, .int .i64 0, .int .i64 0, .slice none 0 0, .slice none 0 0, .int .i64 0, .int .i64 0, .slice none 0 0, .int .i64 0, .slice none 0 0, .bool false, .int .i64 0, .int .i64 0, .slice none 0 0, .bool b2, .int .i64 x2, .int .i64 y2, .slice a2 n2 c2] 46:=hoh
 refine Nx Z<|cw_region fun _ Z=>Qm rfl<|Qa rfl<|as_nil (Z _ _ ?_)
 refine hK3 _ _<|Ri fun Z=>Qc 18 rfl (OD hoh rfl)<|Qm rfl ?_
 have hor:=hor.t hs4 |>.t hs5 |>.u hs6 |>.u hs7
 refine St hs7.sat hor rfl fun w8 hs8 hor=>?_
 have:=hs8.size
 have hor:=hor.all rfl
 refine Na rfl Z<|cw_ret ?_
 have hT:=hT.t hs5 |>.o hs6 |>.o hs7 |>.o hs8
 exact ⟨_,(Rc 18 rfl (OD hor rfl) (Rt rfl)),_,_,_,_,_,_,_,rfl,hT,hm⟩
end Go.Proofs.YtnnldppehojffaaGreat
/- The reference of any kind, part 3. -/
namespace Go.Proofs.YtnnldppehojffaaGreat
open Go Go.Eng
variable {mb:Option Nat} {w:World} {M:Mem mb}
theorem r15_pop_1 {R:Raw→List Value→Prop} {cost:Nat} {x y:Int} {a:Option Addr} {n c:Nat} (hs:Sat M w) (hc:∀ (w':World) (M':Mem mb),Le M M'→Sat M' w'→Dz 55 #[.agg #[.int .i64 x, .int .i64 y, .slice a n c]] w' (fun v w''=>∃ (x' y':Int) (a':Option Addr) (n' c':Nat) (M'':Mem mb),v = .tuple #[.agg #[.int .i64 x', .int .i64 y', .slice a' n' c'],wv cost]∧Step Nope M' w' M'' w''∧R M'' [.int .i64 x', .int .i64 y', .slice a' n' c'])):
  Dz 26 #[.agg #[.int .i64 1, .int .i64 x, .int .i64 y, .slice a n c, .slice none 0 0, .int .i64 0, .int .i64 0, .slice none 0 0, .int .i64 0, .slice none 0 0, .bool false, .int .i64 0, .int .i64 0, .slice none 0 0, .bool false, .int .i64 0, .int .i64 0, .slice none 0 0]] w (fun v w''=>∃ (x' y':Int) (a':Option Addr) (n' c':Nat) (M'':Mem mb),v = .tuple #[.agg #[.int .i64 1, .int .i64 x', .int .i64 y', .slice a' n' c', .slice none 0 0, .int .i64 0, .int .i64 0, .slice none 0 0, .int .i64 0, .slice none 0 0, .bool false, .int .i64 0, .int .i64 0, .slice none 0 0, .bool false, .int .i64 0, .int .i64 0, .slice none 0 0],wv cost]∧Step Nope M w M'' w''∧R M'' [.int .i64 x', .int .i64 y', .slice a' n' c']):=by
 have hT:=hs.r
 refine Fe Tryz.func26 [.cell 2 46, .tmp 3] rfl<|Ri fun Z=>?_
 have:=hT.size
 refine Bo hs rfl fun bh w1 hs1 hoh eh=>?_
 have:=hs1.size
 have:=hoh.1.lt
 have hT:=hT.t hs1
 have:=hT.size
 refine Al (.agg #[(.int .i64 0),(.int .i64 0),(.int .i64 0),(.slice none 0 0),(.slice none 0 0),(.int .i64 0),(.int .i64 0),(.slice none 0 0),(.int .i64 0),(.slice none 0 0),(.bool false),(.int .i64 0),(.int .i64 0),(.slice none 0 0),(.bool false),(.int .i64 0),(.int .i64 0),(.slice none 0 0)]) hs1.sat rfl fun br w2 hs2 hor er=>?_
 have:=hs2.size
 have:=hor.1.lt
 refine Nar rfl Z fun Z=>Na rfl Z<|cw_seq fun _ hK3=>Ri fun Z=>Qf 0 rfl ?_
 have hoh:=hoh.t hs2
 refine Q1 rfl (OC hoh rfl)<|Nx Z<|cw_block<|Ri fun Z=>Qq rfl (qET rfl)<|Na rfl Z<|cw_true rfl<|Ri fun Z=>Qf 1 rfl<|Qc 3 rfl (OD hoh rfl) ?_
 have hT:=hT.t hs2
 refine Ca rfl ((hc _ _ hT.le hs2.sat).mono ?_)
 rintro _ w3 ⟨x2,y2,a2,n2,c2,Mm,rfl,hs3,hm⟩
 have:=hs3.size
 refine Qm rfl<|Qe rfl<|Qe rfl ?_
 have hT:=hT.t hs3
 have:=hT.size
 refine Al (.agg #[(.int .i64 0),(.int .i64 0),(.slice none 0 0)]) hs3.sat rfl fun bn w4 hs4 hon en=>?_
 have:=hs4.size
 have:=hon.1.lt
 refine St hs4.sat hon rfl fun w5 hs5 hon=>?_
 have:=hs5.size
 refine Nar rfl Z fun Z=>Qc 3 rfl (OD hon rfl)<|Qf 1 rfl ?_
 have hoh:=hoh.t hs3 |>.t hs4 |>.u hs5
 refine St hs5.sat hoh rfl fun w6 hs6 hoh=>?_
 have:=hs6.size
 replace hoh:Own w6 Mm bh [.int .i64 1, .int .i64 x2, .int .i64 y2, .slice a2 n2 c2, .slice none 0 0, .int .i64 0, .int .i64 0, .slice none 0 0, .int .i64 0, .slice none 0 0, .bool false, .int .i64 0, .int .i64 0, .slice none 0 0, .bool false, .int .i64 0, .int .i64 0, .slice none 0 0] 46:=hoh
 refine Nx Z<|cw_region fun _ Z=>Qm rfl<|Qa rfl<|as_nil (Z _ _ ?_)
 refine hK3 _ _<|Ri fun Z=>Qc 18 rfl (OD hoh rfl)<|Qm rfl ?_
 have hor:=hor.t hs3 |>.t hs4 |>.u hs5 |>.u hs6
 refine St hs6.sat hor rfl fun w7 hs7 hor=>?_
 have:=hs7.size
 have hor:=hor.all rfl
 refine Na rfl Z<|cw_ret ?_
 have hT:=hT.t hs4 |>.o hs5 |>.o hs6 |>.o hs7
 exact ⟨_,(Rc 18 rfl (OD hor rfl) (Rt rfl)),_,_,_,_,_,_,rfl,hT,hm⟩
theorem r15_pop_2 {R:Raw→List Value→Prop} {cost:Nat} {a:Option Addr} {n c:Nat} (hs:Sat M w) (hc:∀ (w':World) (M':Mem mb),Le M M'→Sat M' w'→Dz 56 #[.agg #[.slice a n c]] w' (fun v w''=>∃ (a':Option Addr) (n' c':Nat) (M'':Mem mb),v = .tuple #[.agg #[.slice a' n' c'],wv cost]∧Step Nope M' w' M'' w''∧R M'' [.slice a' n' c'])):
  Dz 26 #[.agg #[.int .i64 2, .int .i64 0, .int .i64 0, .slice none 0 0, .slice a n c, .int .i64 0, .int .i64 0, .slice none 0 0, .int .i64 0, .slice none 0 0, .bool false, .int .i64 0, .int .i64 0, .slice none 0 0, .bool false, .int .i64 0, .int .i64 0, .slice none 0 0]] w (fun v w''=>∃ (a':Option Addr) (n' c':Nat) (M'':Mem mb),v = .tuple #[.agg #[.int .i64 2, .int .i64 0, .int .i64 0, .slice none 0 0, .slice a' n' c', .int .i64 0, .int .i64 0, .slice none 0 0, .int .i64 0, .slice none 0 0, .bool false, .int .i64 0, .int .i64 0, .slice none 0 0, .bool false, .int .i64 0, .int .i64 0, .slice none 0 0],wv cost]∧Step Nope M w M'' w''∧R M'' [.slice a' n' c']):=by
 have hT:=hs.r
 refine Fe Tryz.func26 [.cell 2 46, .tmp 3] rfl<|Ri fun Z=>?_
 have:=hT.size
 refine Bo hs rfl fun bh w1 hs1 hoh eh=>?_
 have:=hs1.size
 have:=hoh.1.lt
 have hT:=hT.t hs1
 have:=hT.size
 refine Al (.agg #[(.int .i64 0),(.int .i64 0),(.int .i64 0),(.slice none 0 0),(.slice none 0 0),(.int .i64 0),(.int .i64 0),(.slice none 0 0),(.int .i64 0),(.slice none 0 0),(.bool false),(.int .i64 0),(.int .i64 0),(.slice none 0 0),(.bool false),(.int .i64 0),(.int .i64 0),(.slice none 0 0)]) hs1.sat rfl fun br w2 hs2 hor er=>?_
 have:=hs2.size
 have:=hor.1.lt
 refine Nar rfl Z fun Z=>Na rfl Z<|cw_seq fun _ hK3=>Ri fun Z=>Qf 0 rfl ?_
 have hoh:=hoh.t hs2
 refine Q1 rfl (OC hoh rfl)<|Nx Z<|cw_block<|Ri fun Z=>Qq rfl (qEF rfl)<|Na rfl Z<|cw_false rfl<|Ri fun Z=>Qq rfl (qET rfl)<|Na rfl Z<|cw_true rfl<|Ri fun Z=>Qf 4 rfl<|Qc 1 rfl (OD hoh rfl) ?_
 have hT:=hT.t hs2
 refine Ca rfl ((hc _ _ hT.le hs2.sat).mono ?_)
 rintro _ w3 ⟨a2,n2,c2,Mm,rfl,hs3,hm⟩
 have:=hs3.size
 refine Qm rfl<|Qe rfl<|Qe rfl ?_
 have hT:=hT.t hs3
 have:=hT.size
 refine Al (.agg #[(.slice none 0 0)]) hs3.sat rfl fun bn w4 hs4 hon en=>?_
 have:=hs4.size
 have:=hon.1.lt
 refine St hs4.sat hon rfl fun w5 hs5 hon=>?_
 have:=hs5.size
 refine Nar rfl Z fun Z=>Qc 1 rfl (OD hon rfl)<|Qf 4 rfl ?_
 have hoh:=hoh.t hs3 |>.t hs4 |>.u hs5
 refine St hs5.sat hoh rfl fun w6 hs6 hoh=>?_
 have:=hs6.size
 replace hoh:Own w6 Mm bh [.int .i64 2, .int .i64 0, .int .i64 0, .slice none 0 0, .slice a2 n2 c2, .int .i64 0, .int .i64 0, .slice none 0 0, .int .i64 0, .slice none 0 0, .bool false, .int .i64 0, .int .i64 0, .slice none 0 0, .bool false, .int .i64 0, .int .i64 0, .slice none 0 0] 46:=hoh
 refine Nx Z<|cw_region fun _ Z=>Qm rfl<|Qa rfl<|as_nil (Z _ _ ?_)
 refine hK3 _ _<|Ri fun Z=>Qc 18 rfl (OD hoh rfl)<|Qm rfl ?_
 have hor:=hor.t hs3 |>.t hs4 |>.u hs5 |>.u hs6
 refine St hs6.sat hor rfl fun w7 hs7 hor=>?_
 have:=hs7.size
 have hor:=hor.all rfl
 refine Na rfl Z<|cw_ret ?_
 have hT:=hT.t hs4 |>.o hs5 |>.o hs6 |>.o hs7
 exact ⟨_,(Rc 18 rfl (OD hor rfl) (Rt rfl)),_,_,_,_,rfl,hT,hm⟩
theorem r15_pop_3 {R:Raw→List Value→Prop} {cost:Nat} {x y z:Int} {a:Option Addr} {n c:Nat} (hs:Sat M w) (hc:∀ (w':World) (M':Mem mb),Le M M'→Sat M' w'→Dz 57 #[.agg #[.int .i64 x, .int .i64 y, .slice a n c, .int .i64 z]] w' (fun v w''=>∃ (x' y' z':Int) (a':Option Addr) (n' c':Nat) (M'':Mem mb),v = .tuple #[.agg #[.int .i64 x', .int .i64 y', .slice a' n' c', .int .i64 z'],wv cost]∧Step Nope M' w' M'' w''∧R M'' [.int .i64 x', .int .i64 y', .slice a' n' c', .int .i64 z'])):
  Dz 26 #[.agg #[.int .i64 3, .int .i64 0, .int .i64 0, .slice none 0 0, .slice none 0 0, .int .i64 x, .int .i64 y, .slice a n c, .int .i64 z, .slice none 0 0, .bool false, .int .i64 0, .int .i64 0, .slice none 0 0, .bool false, .int .i64 0, .int .i64 0, .slice none 0 0]] w (fun v w''=>∃ (x' y' z':Int) (a':Option Addr) (n' c':Nat) (M'':Mem mb),v = .tuple #[.agg #[.int .i64 3, .int .i64 0, .int .i64 0, .slice none 0 0, .slice none 0 0, .int .i64 x', .int .i64 y', .slice a' n' c', .int .i64 z', .slice none 0 0, .bool false, .int .i64 0, .int .i64 0, .slice none 0 0, .bool false, .int .i64 0, .int .i64 0, .slice none 0 0],wv cost]∧Step Nope M w M'' w''∧R M'' [.int .i64 x', .int .i64 y', .slice a' n' c', .int .i64 z']):=by
 have hT:=hs.r
 refine Fe Tryz.func26 [.cell 2 46, .tmp 3] rfl<|Ri fun Z=>?_
 have:=hT.size
 refine Bo hs rfl fun bh w1 hs1 hoh eh=>?_
 have:=hs1.size
 have:=hoh.1.lt
 have hT:=hT.t hs1
 have:=hT.size
 refine Al (.agg #[(.int .i64 0),(.int .i64 0),(.int .i64 0),(.slice none 0 0),(.slice none 0 0),(.int .i64 0),(.int .i64 0),(.slice none 0 0),(.int .i64 0),(.slice none 0 0),(.bool false),(.int .i64 0),(.int .i64 0),(.slice none 0 0),(.bool false),(.int .i64 0),(.int .i64 0),(.slice none 0 0)]) hs1.sat rfl fun br w2 hs2 hor er=>?_
 have:=hs2.size
 have:=hor.1.lt
 refine Nar rfl Z fun Z=>Na rfl Z<|cw_seq fun _ hK3=>Ri fun Z=>Qf 0 rfl ?_
 have hoh:=hoh.t hs2
 refine Q1 rfl (OC hoh rfl)<|Nx Z<|cw_block<|Ri fun Z=>Qq rfl (qEF rfl)<|Na rfl Z<|cw_false rfl<|Ri fun Z=>Qq rfl (qEF rfl)<|Na rfl Z<|cw_false rfl<|Ri fun Z=>Qq rfl (qET rfl)<|Na rfl Z<|cw_true rfl<|Ri fun Z=>Qf 5 rfl<|Qc 4 rfl (OD hoh rfl) ?_
 have hT:=hT.t hs2
 refine Ca rfl ((hc _ _ hT.le hs2.sat).mono ?_)
 rintro _ w3 ⟨x2,y2,z2,a2,n2,c2,Mm,rfl,hs3,hm⟩
 have:=hs3.size
 refine Qm rfl<|Qe rfl<|Qe rfl ?_
 have hT:=hT.t hs3
 have:=hT.size
 refine Al (.agg #[(.int .i64 0),(.int .i64 0),(.slice none 0 0),(.int .i64 0)]) hs3.sat rfl fun bn w4 hs4 hon en=>?_
 have:=hs4.size
 have:=hon.1.lt
 refine St hs4.sat hon rfl fun w5 hs5 hon=>?_
 have:=hs5.size
 refine Nar rfl Z fun Z=>Qc 4 rfl (OD hon rfl)<|Qf 5 rfl ?_
 have hoh:=hoh.t hs3 |>.t hs4 |>.u hs5
 refine St hs5.sat hoh rfl fun w6 hs6 hoh=>?_
 have:=hs6.size
 replace hoh:Own w6 Mm bh [.int .i64 3, .int .i64 0, .int .i64 0, .slice none 0 0, .slice none 0 0, .int .i64 x2, .int .i64 y2, .slice a2 n2 c2, .int .i64 z2, .slice none 0 0, .bool false, .int .i64 0, .int .i64 0, .slice none 0 0, .bool false, .int .i64 0, .int .i64 0, .slice none 0 0] 46:=hoh
 refine Nx Z<|cw_region fun _ Z=>Qm rfl<|Qa rfl<|as_nil (Z _ _ ?_)
 refine hK3 _ _<|Ri fun Z=>Qc 18 rfl (OD hoh rfl)<|Qm rfl ?_
 have hor:=hor.t hs3 |>.t hs4 |>.u hs5 |>.u hs6
 refine St hs6.sat hor rfl fun w7 hs7 hor=>?_
 have:=hs7.size
 have hor:=hor.all rfl
 refine Na rfl Z<|cw_ret ?_
 have hT:=hT.t hs4 |>.o hs5 |>.o hs6 |>.o hs7
 exact ⟨_,(Rc 18 rfl (OD hor rfl) (Rt rfl)),_,_,_,_,_,_,_,rfl,hT,hm⟩
theorem r15_pop_4 {R:Raw→List Value→Prop} {cost:Nat} {a:Option Addr} {n c:Nat} (hs:Sat M w) (hc:∀ (w':World) (M':Mem mb),Le M M'→Sat M' w'→Dz 58 #[.agg #[.slice a n c]] w' (fun v w''=>∃ (a':Option Addr) (n' c':Nat) (M'':Mem mb),v = .tuple #[.agg #[.slice a' n' c'],wv cost]∧Step Nope M' w' M'' w''∧R M'' [.slice a' n' c'])):
  Dz 26 #[.agg #[.int .i64 4, .int .i64 0, .int .i64 0, .slice none 0 0, .slice none 0 0, .int .i64 0, .int .i64 0, .slice none 0 0, .int .i64 0, .slice a n c, .bool false, .int .i64 0, .int .i64 0, .slice none 0 0, .bool false, .int .i64 0, .int .i64 0, .slice none 0 0]] w (fun v w''=>∃ (a':Option Addr) (n' c':Nat) (M'':Mem mb),v = .tuple #[.agg #[.int .i64 4, .int .i64 0, .int .i64 0, .slice none 0 0, .slice none 0 0, .int .i64 0, .int .i64 0, .slice none 0 0, .int .i64 0, .slice a' n' c', .bool false, .int .i64 0, .int .i64 0, .slice none 0 0, .bool false, .int .i64 0, .int .i64 0, .slice none 0 0],wv cost]∧Step Nope M w M'' w''∧R M'' [.slice a' n' c']):=by
 have hT:=hs.r
 refine Fe Tryz.func26 [.cell 2 46, .tmp 3] rfl<|Ri fun Z=>?_
 have:=hT.size
 refine Bo hs rfl fun bh w1 hs1 hoh eh=>?_
 have:=hs1.size
 have:=hoh.1.lt
 have hT:=hT.t hs1
 have:=hT.size
 refine Al (.agg #[(.int .i64 0),(.int .i64 0),(.int .i64 0),(.slice none 0 0),(.slice none 0 0),(.int .i64 0),(.int .i64 0),(.slice none 0 0),(.int .i64 0),(.slice none 0 0),(.bool false),(.int .i64 0),(.int .i64 0),(.slice none 0 0),(.bool false),(.int .i64 0),(.int .i64 0),(.slice none 0 0)]) hs1.sat rfl fun br w2 hs2 hor er=>?_
 have:=hs2.size
 have:=hor.1.lt
 refine Nar rfl Z fun Z=>Na rfl Z<|cw_seq fun _ hK3=>Ri fun Z=>Qf 0 rfl ?_
 have hoh:=hoh.t hs2
 refine Q1 rfl (OC hoh rfl)<|Nx Z<|cw_block<|Ri fun Z=>Qq rfl (qEF rfl)<|Na rfl Z<|cw_false rfl<|Ri fun Z=>Qq rfl (qEF rfl)<|Na rfl Z<|cw_false rfl<|Ri fun Z=>Qq rfl (qEF rfl)<|Na rfl Z<|cw_false rfl<|Ri fun Z=>Qq rfl (qET rfl)<|Na rfl Z<|cw_true rfl<|Ri fun Z=>Qf 9 rfl<|Qc 1 rfl (OD hoh rfl) ?_
 have hT:=hT.t hs2
 refine Ca rfl ((hc _ _ hT.le hs2.sat).mono ?_)
 rintro _ w3 ⟨a2,n2,c2,Mm,rfl,hs3,hm⟩
 have:=hs3.size
 refine Qm rfl<|Qe rfl<|Qe rfl ?_
 have hT:=hT.t hs3
 have:=hT.size
 refine Al (.agg #[(.slice none 0 0)]) hs3.sat rfl fun bn w4 hs4 hon en=>?_
 have:=hs4.size
 have:=hon.1.lt
 refine St hs4.sat hon rfl fun w5 hs5 hon=>?_
 have:=hs5.size
 refine Nar rfl Z fun Z=>Qc 1 rfl (OD hon rfl)<|Qf 9 rfl ?_
 have hoh:=hoh.t hs3 |>.t hs4 |>.u hs5
 refine St hs5.sat hoh rfl fun w6 hs6 hoh=>?_
 have:=hs6.size
 replace hoh:Own w6 Mm bh [.int .i64 4, .int .i64 0, .int .i64 0, .slice none 0 0, .slice none 0 0, .int .i64 0, .int .i64 0, .slice none 0 0, .int .i64 0, .slice a2 n2 c2, .bool false, .int .i64 0, .int .i64 0, .slice none 0 0, .bool false, .int .i64 0, .int .i64 0, .slice none 0 0] 46:=hoh
 refine Nx Z<|cw_region fun _ Z=>Qm rfl<|Qa rfl<|as_nil (Z _ _ ?_)
 refine hK3 _ _<|Ri fun Z=>Qc 18 rfl (OD hoh rfl)<|Qm rfl ?_
 have hor:=hor.t hs3 |>.t hs4 |>.u hs5 |>.u hs6
 refine St hs6.sat hor rfl fun w7 hs7 hor=>?_
 have:=hs7.size
 have hor:=hor.all rfl
 refine Na rfl Z<|cw_ret ?_
 have hT:=hT.t hs4 |>.o hs5 |>.o hs6 |>.o hs7
 exact ⟨_,(Rc 18 rfl (OD hor rfl) (Rt rfl)),_,_,_,_,rfl,hT,hm⟩
theorem r15_pop_5 {R:Raw→List Value→Prop} {cost:Nat} {b:Bool} {x y:Int} {a:Option Addr} {n c:Nat} (hs:Sat M w) (hc:∀ (w':World) (M':Mem mb),Le M M'→Sat M' w'→Dz 59 #[.agg #[.bool b, .int .i64 x, .int .i64 y, .slice a n c]] w' (fun v w''=>∃ (b':Bool) (x' y':Int) (a':Option Addr) (n' c':Nat) (M'':Mem mb),v = .tuple #[.agg #[.bool b', .int .i64 x', .int .i64 y', .slice a' n' c'],wv cost]∧Step Nope M' w' M'' w''∧R M'' [.bool b', .int .i64 x', .int .i64 y', .slice a' n' c'])):
  Dz 26 #[.agg #[.int .i64 5, .int .i64 0, .int .i64 0, .slice none 0 0, .slice none 0 0, .int .i64 0, .int .i64 0, .slice none 0 0, .int .i64 0, .slice none 0 0, .bool b, .int .i64 x, .int .i64 y, .slice a n c, .bool false, .int .i64 0, .int .i64 0, .slice none 0 0]] w (fun v w''=>∃ (b':Bool) (x' y':Int) (a':Option Addr) (n' c':Nat) (M'':Mem mb),v = .tuple #[.agg #[.int .i64 5, .int .i64 0, .int .i64 0, .slice none 0 0, .slice none 0 0, .int .i64 0, .int .i64 0, .slice none 0 0, .int .i64 0, .slice none 0 0, .bool b', .int .i64 x', .int .i64 y', .slice a' n' c', .bool false, .int .i64 0, .int .i64 0, .slice none 0 0],wv cost]∧Step Nope M w M'' w''∧R M'' [.bool b', .int .i64 x', .int .i64 y', .slice a' n' c']):=by
 have hT:=hs.r
 refine Fe Tryz.func26 [.cell 2 46, .tmp 3] rfl<|Ri fun Z=>?_
 have:=hT.size
 refine Bo hs rfl fun bh w1 hs1 hoh eh=>?_
 have:=hs1.size
 have:=hoh.1.lt
 have hT:=hT.t hs1
 have:=hT.size
 refine Al (.agg #[(.int .i64 0),(.int .i64 0),(.int .i64 0),(.slice none 0 0),(.slice none 0 0),(.int .i64 0),(.int .i64 0),(.slice none 0 0),(.int .i64 0),(.slice none 0 0),(.bool false),(.int .i64 0),(.int .i64 0),(.slice none 0 0),(.bool false),(.int .i64 0),(.int .i64 0),(.slice none 0 0)]) hs1.sat rfl fun br w2 hs2 hor er=>?_
 have:=hs2.size
 have:=hor.1.lt
 refine Nar rfl Z fun Z=>Na rfl Z<|cw_seq fun _ hK3=>Ri fun Z=>Qf 0 rfl ?_
 have hoh:=hoh.t hs2
 refine Q1 rfl (OC hoh rfl)<|Nx Z<|cw_block<|Ri fun Z=>Qq rfl (qEF rfl)<|Na rfl Z<|cw_false rfl<|Ri fun Z=>Qq rfl (qEF rfl)<|Na rfl Z<|cw_false rfl<|Ri fun Z=>Qq rfl (qEF rfl)<|Na rfl Z<|cw_false rfl<|Ri fun Z=>Qq rfl (qEF rfl)<|Na rfl Z<|cw_false rfl<|Ri fun Z=>Qq rfl (qET rfl)<|Na rfl Z<|cw_true rfl<|Ri fun Z=>Qf 10 rfl<|Qc 4 rfl (OD hoh rfl) ?_
 have hT:=hT.t hs2
 refine Ca rfl ((hc _ _ hT.le hs2.sat).mono ?_)
 rintro _ w3 ⟨b2,x2,y2,a2,n2,c2,Mm,rfl,hs3,hm⟩
 have:=hs3.size
 refine Qm rfl<|Qe rfl<|Qe rfl ?_
 have hT:=hT.t hs3
 have:=hT.size
 refine Al (.agg #[(.bool false),(.int .i64 0),(.int .i64 0),(.slice none 0 0)]) hs3.sat rfl fun bn w4 hs4 hon en=>?_
 have:=hs4.size
 have:=hon.1.lt
 refine St hs4.sat hon rfl fun w5 hs5 hon=>?_
 have:=hs5.size
 refine Nar rfl Z fun Z=>Qc 4 rfl (OD hon rfl)<|Qf 10 rfl ?_
 have hoh:=hoh.t hs3 |>.t hs4 |>.u hs5
 refine St hs5.sat hoh rfl fun w6 hs6 hoh=>?_
 have:=hs6.size
 replace hoh:Own w6 Mm bh [.int .i64 5, .int .i64 0, .int .i64 0, .slice none 0 0, .slice none 0 0, .int .i64 0, .int .i64 0, .slice none 0 0, .int .i64 0, .slice none 0 0, .bool b2, .int .i64 x2, .int .i64 y2, .slice a2 n2 c2, .bool false, .int .i64 0, .int .i64 0, .slice none 0 0] 46:=hoh
 refine Nx Z<|cw_region fun _ Z=>Qm rfl<|Qa rfl<|as_nil (Z _ _ ?_)
 refine hK3 _ _<|Ri fun Z=>Qc 18 rfl (OD hoh rfl)<|Qm rfl ?_
 have hor:=hor.t hs3 |>.t hs4 |>.u hs5 |>.u hs6
 refine St hs6.sat hor rfl fun w7 hs7 hor=>?_
 have:=hs7.size
 have hor:=hor.all rfl
 refine Na rfl Z<|cw_ret ?_
 have hT:=hT.t hs4 |>.o hs5 |>.o hs6 |>.o hs7
 exact ⟨_,(Rc 18 rfl (OD hor rfl) (Rt rfl)),_,_,_,_,_,_,_,rfl,hT,hm⟩
theorem r15_pop_6 {R:Raw→List Value→Prop} {cost:Nat} {b:Bool} {x y:Int} {a:Option Addr} {n c:Nat} (hs:Sat M w) (hc:∀ (w':World) (M':Mem mb),Le M M'→Sat M' w'→Dz 60 #[.agg #[.bool b, .int .i64 x, .int .i64 y, .slice a n c]] w' (fun v w''=>∃ (b':Bool) (x' y':Int) (a':Option Addr) (n' c':Nat) (M'':Mem mb),v = .tuple #[.agg #[.bool b', .int .i64 x', .int .i64 y', .slice a' n' c'],wv cost]∧Step Nope M' w' M'' w''∧R M'' [.bool b', .int .i64 x', .int .i64 y', .slice a' n' c'])):
  Dz 26 #[.agg #[.int .i64 6, .int .i64 0, .int .i64 0, .slice none 0 0, .slice none 0 0, .int .i64 0, .int .i64 0, .slice none 0 0, .int .i64 0, .slice none 0 0, .bool false, .int .i64 0, .int .i64 0, .slice none 0 0, .bool b, .int .i64 x, .int .i64 y, .slice a n c]] w (fun v w''=>∃ (b':Bool) (x' y':Int) (a':Option Addr) (n' c':Nat) (M'':Mem mb),v = .tuple #[.agg #[.int .i64 6, .int .i64 0, .int .i64 0, .slice none 0 0, .slice none 0 0, .int .i64 0, .int .i64 0, .slice none 0 0, .int .i64 0, .slice none 0 0, .bool false, .int .i64 0, .int .i64 0, .slice none 0 0, .bool b', .int .i64 x', .int .i64 y', .slice a' n' c'],wv cost]∧Step Nope M w M'' w''∧R M'' [.bool b', .int .i64 x', .int .i64 y', .slice a' n' c']):=by
 have hT:=hs.r
 refine Fe Tryz.func26 [.cell 2 46, .tmp 3] rfl<|Ri fun Z=>?_
 have:=hT.size
 refine Bo hs rfl fun bh w1 hs1 hoh eh=>?_
 have:=hs1.size
 have:=hoh.1.lt
 have hT:=hT.t hs1
 have:=hT.size
 refine Al (.agg #[(.int .i64 0),(.int .i64 0),(.int .i64 0),(.slice none 0 0),(.slice none 0 0),(.int .i64 0),(.int .i64 0),(.slice none 0 0),(.int .i64 0),(.slice none 0 0),(.bool false),(.int .i64 0),(.int .i64 0),(.slice none 0 0),(.bool false),(.int .i64 0),(.int .i64 0),(.slice none 0 0)]) hs1.sat rfl fun br w2 hs2 hor er=>?_
 have:=hs2.size
 have:=hor.1.lt
 refine Nar rfl Z fun Z=>Na rfl Z<|cw_seq fun _ hK3=>Ri fun Z=>Qf 0 rfl ?_
 have hoh:=hoh.t hs2
 refine Q1 rfl (OC hoh rfl)<|Nx Z<|cw_block<|Ri fun Z=>Qq rfl (qEF rfl)<|Na rfl Z<|cw_false rfl<|Ri fun Z=>Qq rfl (qEF rfl)<|Na rfl Z<|cw_false rfl<|Ri fun Z=>Qq rfl (qEF rfl)<|Na rfl Z<|cw_false rfl<|Ri fun Z=>Qq rfl (qEF rfl)<|Na rfl Z<|cw_false rfl<|Ri fun Z=>Qq rfl (qEF rfl)<|Na rfl Z<|cw_false rfl<|Ri fun Z=>Qq rfl (qET rfl)<|Na rfl Z<|cw_true rfl<|Ri fun Z=>Qf 14 rfl<|Qc 4 rfl (OD hoh rfl) ?_
 have hT:=hT.t hs2
 refine Ca rfl ((hc _ _ hT.le hs2.sat).mono ?_)
 rintro _ w3 ⟨b2,x2,y2,a2,n2,c2,Mm,rfl,hs3,hm⟩
 have:=hs3.size
 refine Qm rfl<|Qe rfl<|Qe rfl ?_
 have hT:=hT.t hs3
 have:=hT.size
 refine Al (.agg #[(.bool false),(.int .i64 0),(.int .i64 0),(.slice none 0 0)]) hs3.sat rfl fun bn w4 hs4 hon en=>?_
 have:=hs4.size
 have:=hon.1.lt
 refine St hs4.sat hon rfl fun w5 hs5 hon=>?_
 have:=hs5.size
 refine Nar rfl Z fun Z=>Qc 4 rfl (OD hon rfl)<|Qf 14 rfl ?_
 have hoh:=hoh.t hs3 |>.t hs4 |>.u hs5
 refine St hs5.sat hoh rfl fun w6 hs6 hoh=>?_
 have:=hs6.size
 replace hoh:Own w6 Mm bh [.int .i64 6, .int .i64 0, .int .i64 0, .slice none 0 0, .slice none 0 0, .int .i64 0, .int .i64 0, .slice none 0 0, .int .i64 0, .slice none 0 0, .bool false, .int .i64 0, .int .i64 0, .slice none 0 0, .bool b2, .int .i64 x2, .int .i64 y2, .slice a2 n2 c2] 46:=hoh
 refine Nx Z<|cw_region fun _ Z=>Qm rfl<|Qa rfl<|as_nil (Z _ _ ?_)
 refine hK3 _ _<|Ri fun Z=>Qc 18 rfl (OD hoh rfl)<|Qm rfl ?_
 have hor:=hor.t hs3 |>.t hs4 |>.u hs5 |>.u hs6
 refine St hs6.sat hor rfl fun w7 hs7 hor=>?_
 have:=hs7.size
 have hor:=hor.all rfl
 refine Na rfl Z<|cw_ret ?_
 have hT:=hT.t hs4 |>.o hs5 |>.o hs6 |>.o hs7
 exact ⟨_,(Rc 18 rfl (OD hor rfl) (Rt rfl)),_,_,_,_,_,_,_,rfl,hT,hm⟩
end Go.Proofs.YtnnldppehojffaaGreat
/- The reference of any kind, part 4. -/
namespace Go.Proofs.YtnnldppehojffaaGreat
open Go Go.Eng
variable {mb:Option Nat} {w:World} {M:Mem mb}
theorem r15_min_1 {x y:Int} {a:Option Addr} {n c:Nat} {x0:El} {cost:Nat} (hs:Sat M w) (hc:∀ (w':World) (M':Mem mb),Le M M'→Sat M' w'→Dz 71 #[.agg #[.int .i64 x, .int .i64 y, .slice a n c]] w' (fun v w''=>v = .tuple #[.agg (elc x0).toArray,wv cost]∧∃ M'',Step Nope M' w' M'' w'')):
  Dz 33 #[.agg #[.int .i64 1, .int .i64 x, .int .i64 y, .slice a n c, .slice none 0 0, .int .i64 0, .int .i64 0, .slice none 0 0, .int .i64 0, .slice none 0 0, .bool false, .int .i64 0, .int .i64 0, .slice none 0 0, .bool false, .int .i64 0, .int .i64 0, .slice none 0 0]] w (fun v w''=>v = .tuple #[.agg (elc x0).toArray,wv cost]∧∃ M'',Step Nope M w M'' w''):=by
 have hT:=hs.r
 refine Fe Tryz.func33 [.cell 2 29, .tmp 3] rfl<|Ri fun Z=>Bm hs rfl fun b1 M1 w1 hs1 hb1 e1=>?_
 have:=hs1.size
 have hT:=hT.t hs1
 have:=hT.size
 refine Al (.agg #[(.int .i64 0),(.int .i64 0)]) hs1.sat rfl fun br w2 hs2 hor er=>?_
 have:=hs2.size
 have:=hor.1.lt
 refine Na rfl Z<|cw_seq fun _ hK2=>Ri fun Z=>Qf 0 rfl<|Q1 rfl (BC hs2 hb1 rfl)<|Nx Z<|cw_block<|Ri fun Z=>Qq rfl (qET rfl)<|Na rfl Z<|cw_true rfl<|Ri fun Z=>Qf 1 rfl<|Qc 3 rfl (BD hs2 hb1 rfl) ?_
 have hT:=hT.t hs2
 refine Ca rfl ((hc _ _ hT.le hs2.sat).mono ?_)
 rintro _ w3 ⟨rfl,Mm,hs3⟩
 have:=hs3.size
 refine Qe rfl<|Qe rfl ?_
 have hor:=hor.t hs3
 refine St hs3.sat hor rfl fun w4 hs4 hor=>?_
 have:=hs4.size
 refine Na rfl Z<|cw_ret ?_
 have hT:=hT.t hs3 |>.o hs4
 exact ⟨_,(Rc 2 rfl (OD hor rfl) (Rt rfl)),rfl,_,hT⟩
theorem r15_min_2 {a:Option Addr} {n c:Nat} {x0:El} {cost:Nat} (hs:Sat M w) (hc:∀ (w':World) (M':Mem mb),Le M M'→Sat M' w'→Dz 72 #[.agg #[.slice a n c]] w' (fun v w''=>v = .tuple #[.agg (elc x0).toArray,wv cost]∧∃ M'',Step Nope M' w' M'' w'')):
  Dz 33 #[.agg #[.int .i64 2, .int .i64 0, .int .i64 0, .slice none 0 0, .slice a n c, .int .i64 0, .int .i64 0, .slice none 0 0, .int .i64 0, .slice none 0 0, .bool false, .int .i64 0, .int .i64 0, .slice none 0 0, .bool false, .int .i64 0, .int .i64 0, .slice none 0 0]] w (fun v w''=>v = .tuple #[.agg (elc x0).toArray,wv cost]∧∃ M'',Step Nope M w M'' w''):=by
 have hT:=hs.r
 refine Fe Tryz.func33 [.cell 2 29, .tmp 3] rfl<|Ri fun Z=>Bm hs rfl fun b1 M1 w1 hs1 hb1 e1=>?_
 have:=hs1.size
 have hT:=hT.t hs1
 have:=hT.size
 refine Al (.agg #[(.int .i64 0),(.int .i64 0)]) hs1.sat rfl fun br w2 hs2 hor er=>?_
 have:=hs2.size
 have:=hor.1.lt
 refine Na rfl Z<|cw_seq fun _ hK2=>Ri fun Z=>Qf 0 rfl<|Q1 rfl (BC hs2 hb1 rfl)<|Nx Z<|cw_block<|Ri fun Z=>Qq rfl (qEF rfl)<|Na rfl Z<|cw_false rfl<|Ri fun Z=>Qq rfl (qET rfl)<|Na rfl Z<|cw_true rfl<|Ri fun Z=>Qf 4 rfl<|Qc 1 rfl (BD hs2 hb1 rfl) ?_
 have hT:=hT.t hs2
 refine Ca rfl ((hc _ _ hT.le hs2.sat).mono ?_)
 rintro _ w3 ⟨rfl,Mm,hs3⟩
 have:=hs3.size
 refine Qe rfl<|Qe rfl ?_
 have hor:=hor.t hs3
 refine St hs3.sat hor rfl fun w4 hs4 hor=>?_
 have:=hs4.size
 refine Na rfl Z<|cw_ret ?_
 have hT:=hT.t hs3 |>.o hs4
 exact ⟨_,(Rc 2 rfl (OD hor rfl) (Rt rfl)),rfl,_,hT⟩
theorem r15_min_3 {x y z:Int} {a:Option Addr} {n c:Nat} {x0:El} {cost:Nat} (hs:Sat M w) (hc:∀ (w':World) (M':Mem mb),Le M M'→Sat M' w'→Dz 73 #[.agg #[.int .i64 x, .int .i64 y, .slice a n c, .int .i64 z]] w' (fun v w''=>v = .tuple #[.agg (elc x0).toArray,wv cost]∧∃ M'',Step Nope M' w' M'' w'')):
  Dz 33 #[.agg #[.int .i64 3, .int .i64 0, .int .i64 0, .slice none 0 0, .slice none 0 0, .int .i64 x, .int .i64 y, .slice a n c, .int .i64 z, .slice none 0 0, .bool false, .int .i64 0, .int .i64 0, .slice none 0 0, .bool false, .int .i64 0, .int .i64 0, .slice none 0 0]] w (fun v w''=>v = .tuple #[.agg (elc x0).toArray,wv cost]∧∃ M'',Step Nope M w M'' w''):=by
 have hT:=hs.r
 refine Fe Tryz.func33 [.cell 2 29, .tmp 3] rfl<|Ri fun Z=>Bm hs rfl fun b1 M1 w1 hs1 hb1 e1=>?_
 have:=hs1.size
 have hT:=hT.t hs1
 have:=hT.size
 refine Al (.agg #[(.int .i64 0),(.int .i64 0)]) hs1.sat rfl fun br w2 hs2 hor er=>?_
 have:=hs2.size
 have:=hor.1.lt
 refine Na rfl Z<|cw_seq fun _ hK2=>Ri fun Z=>Qf 0 rfl<|Q1 rfl (BC hs2 hb1 rfl)<|Nx Z<|cw_block<|Ri fun Z=>Qq rfl (qEF rfl)<|Na rfl Z<|cw_false rfl<|Ri fun Z=>Qq rfl (qEF rfl)<|Na rfl Z<|cw_false rfl<|Ri fun Z=>Qq rfl (qET rfl)<|Na rfl Z<|cw_true rfl<|Ri fun Z=>Qf 5 rfl<|Qc 4 rfl (BD hs2 hb1 rfl) ?_
 have hT:=hT.t hs2
 refine Ca rfl ((hc _ _ hT.le hs2.sat).mono ?_)
 rintro _ w3 ⟨rfl,Mm,hs3⟩
 have:=hs3.size
 refine Qe rfl<|Qe rfl ?_
 have hor:=hor.t hs3
 refine St hs3.sat hor rfl fun w4 hs4 hor=>?_
 have:=hs4.size
 refine Na rfl Z<|cw_ret ?_
 have hT:=hT.t hs3 |>.o hs4
 exact ⟨_,(Rc 2 rfl (OD hor rfl) (Rt rfl)),rfl,_,hT⟩
theorem r15_min_4 {a:Option Addr} {n c:Nat} {x0:El} {cost:Nat} (hs:Sat M w) (hc:∀ (w':World) (M':Mem mb),Le M M'→Sat M' w'→Dz 74 #[.agg #[.slice a n c]] w' (fun v w''=>v = .tuple #[.agg (elc x0).toArray,wv cost]∧∃ M'',Step Nope M' w' M'' w'')):
  Dz 33 #[.agg #[.int .i64 4, .int .i64 0, .int .i64 0, .slice none 0 0, .slice none 0 0, .int .i64 0, .int .i64 0, .slice none 0 0, .int .i64 0, .slice a n c, .bool false, .int .i64 0, .int .i64 0, .slice none 0 0, .bool false, .int .i64 0, .int .i64 0, .slice none 0 0]] w (fun v w''=>v = .tuple #[.agg (elc x0).toArray,wv cost]∧∃ M'',Step Nope M w M'' w''):=by
 have hT:=hs.r
 refine Fe Tryz.func33 [.cell 2 29, .tmp 3] rfl<|Ri fun Z=>Bm hs rfl fun b1 M1 w1 hs1 hb1 e1=>?_
 have:=hs1.size
 have hT:=hT.t hs1
 have:=hT.size
 refine Al (.agg #[(.int .i64 0),(.int .i64 0)]) hs1.sat rfl fun br w2 hs2 hor er=>?_
 have:=hs2.size
 have:=hor.1.lt
 refine Na rfl Z<|cw_seq fun _ hK2=>Ri fun Z=>Qf 0 rfl<|Q1 rfl (BC hs2 hb1 rfl)<|Nx Z<|cw_block<|Ri fun Z=>Qq rfl (qEF rfl)<|Na rfl Z<|cw_false rfl<|Ri fun Z=>Qq rfl (qEF rfl)<|Na rfl Z<|cw_false rfl<|Ri fun Z=>Qq rfl (qEF rfl)<|Na rfl Z<|cw_false rfl<|Ri fun Z=>Qq rfl (qET rfl)<|Na rfl Z<|cw_true rfl<|Ri fun Z=>Qf 9 rfl<|Qc 1 rfl (BD hs2 hb1 rfl) ?_
 have hT:=hT.t hs2
 refine Ca rfl ((hc _ _ hT.le hs2.sat).mono ?_)
 rintro _ w3 ⟨rfl,Mm,hs3⟩
 have:=hs3.size
 refine Qe rfl<|Qe rfl ?_
 have hor:=hor.t hs3
 refine St hs3.sat hor rfl fun w4 hs4 hor=>?_
 have:=hs4.size
 refine Na rfl Z<|cw_ret ?_
 have hT:=hT.t hs3 |>.o hs4
 exact ⟨_,(Rc 2 rfl (OD hor rfl) (Rt rfl)),rfl,_,hT⟩
theorem r15_min_5 {b:Bool} {x y:Int} {a:Option Addr} {n c:Nat} {x0:El} {cost:Nat} (hs:Sat M w) (hc:∀ (w':World) (M':Mem mb),Le M M'→Sat M' w'→Dz 75 #[.agg #[.bool b, .int .i64 x, .int .i64 y, .slice a n c]] w' (fun v w''=>v = .tuple #[.agg (elc x0).toArray,wv cost]∧∃ M'',Step Nope M' w' M'' w'')):
  Dz 33 #[.agg #[.int .i64 5, .int .i64 0, .int .i64 0, .slice none 0 0, .slice none 0 0, .int .i64 0, .int .i64 0, .slice none 0 0, .int .i64 0, .slice none 0 0, .bool b, .int .i64 x, .int .i64 y, .slice a n c, .bool false, .int .i64 0, .int .i64 0, .slice none 0 0]] w (fun v w''=>v = .tuple #[.agg (elc x0).toArray,wv cost]∧∃ M'',Step Nope M w M'' w''):=by
 have hT:=hs.r
 refine Fe Tryz.func33 [.cell 2 29, .tmp 3] rfl<|Ri fun Z=>Bm hs rfl fun b1 M1 w1 hs1 hb1 e1=>?_
 have:=hs1.size
 have hT:=hT.t hs1
 have:=hT.size
 refine Al (.agg #[(.int .i64 0),(.int .i64 0)]) hs1.sat rfl fun br w2 hs2 hor er=>?_
 have:=hs2.size
 have:=hor.1.lt
 refine Na rfl Z<|cw_seq fun _ hK2=>Ri fun Z=>Qf 0 rfl<|Q1 rfl (BC hs2 hb1 rfl)<|Nx Z<|cw_block<|Ri fun Z=>Qq rfl (qEF rfl)<|Na rfl Z<|cw_false rfl<|Ri fun Z=>Qq rfl (qEF rfl)<|Na rfl Z<|cw_false rfl<|Ri fun Z=>Qq rfl (qEF rfl)<|Na rfl Z<|cw_false rfl<|Ri fun Z=>Qq rfl (qEF rfl)<|Na rfl Z<|cw_false rfl<|Ri fun Z=>Qq rfl (qET rfl)<|Na rfl Z<|cw_true rfl<|Ri fun Z=>Qf 10 rfl<|Qc 4 rfl (BD hs2 hb1 rfl) ?_
 have hT:=hT.t hs2
 refine Ca rfl ((hc _ _ hT.le hs2.sat).mono ?_)
 rintro _ w3 ⟨rfl,Mm,hs3⟩
 have:=hs3.size
 refine Qe rfl<|Qe rfl ?_
 have hor:=hor.t hs3
 refine St hs3.sat hor rfl fun w4 hs4 hor=>?_
 have:=hs4.size
 refine Na rfl Z<|cw_ret ?_
 have hT:=hT.t hs3 |>.o hs4
 exact ⟨_,(Rc 2 rfl (OD hor rfl) (Rt rfl)),rfl,_,hT⟩
theorem r15_min_6 {b:Bool} {x y:Int} {a:Option Addr} {n c:Nat} {x0:El} {cost:Nat} (hs:Sat M w) (hc:∀ (w':World) (M':Mem mb),Le M M'→Sat M' w'→Dz 76 #[.agg #[.bool b, .int .i64 x, .int .i64 y, .slice a n c]] w' (fun v w''=>v = .tuple #[.agg (elc x0).toArray,wv cost]∧∃ M'',Step Nope M' w' M'' w'')):
  Dz 33 #[.agg #[.int .i64 6, .int .i64 0, .int .i64 0, .slice none 0 0, .slice none 0 0, .int .i64 0, .int .i64 0, .slice none 0 0, .int .i64 0, .slice none 0 0, .bool false, .int .i64 0, .int .i64 0, .slice none 0 0, .bool b, .int .i64 x, .int .i64 y, .slice a n c]] w (fun v w''=>v = .tuple #[.agg (elc x0).toArray,wv cost]∧∃ M'',Step Nope M w M'' w''):=by
 have hT:=hs.r
 refine Fe Tryz.func33 [.cell 2 29, .tmp 3] rfl<|Ri fun Z=>Bm hs rfl fun b1 M1 w1 hs1 hb1 e1=>?_
 have:=hs1.size
 have hT:=hT.t hs1
 have:=hT.size
 refine Al (.agg #[(.int .i64 0),(.int .i64 0)]) hs1.sat rfl fun br w2 hs2 hor er=>?_
 have:=hs2.size
 have:=hor.1.lt
 refine Na rfl Z<|cw_seq fun _ hK2=>Ri fun Z=>Qf 0 rfl<|Q1 rfl (BC hs2 hb1 rfl)<|Nx Z<|cw_block<|Ri fun Z=>Qq rfl (qEF rfl)<|Na rfl Z<|cw_false rfl<|Ri fun Z=>Qq rfl (qEF rfl)<|Na rfl Z<|cw_false rfl<|Ri fun Z=>Qq rfl (qEF rfl)<|Na rfl Z<|cw_false rfl<|Ri fun Z=>Qq rfl (qEF rfl)<|Na rfl Z<|cw_false rfl<|Ri fun Z=>Qq rfl (qEF rfl)<|Na rfl Z<|cw_false rfl<|Ri fun Z=>Qq rfl (qET rfl)<|Na rfl Z<|cw_true rfl<|Ri fun Z=>Qf 14 rfl<|Qc 4 rfl (BD hs2 hb1 rfl) ?_
 have hT:=hT.t hs2
 refine Ca rfl ((hc _ _ hT.le hs2.sat).mono ?_)
 rintro _ w3 ⟨rfl,Mm,hs3⟩
 have:=hs3.size
 refine Qe rfl<|Qe rfl ?_
 have hor:=hor.t hs3
 refine St hs3.sat hor rfl fun w4 hs4 hor=>?_
 have:=hs4.size
 refine Na rfl Z<|cw_ret ?_
 have hT:=hT.t hs3 |>.o hs4
 exact ⟨_,(Rc 2 rfl (OD hor rfl) (Rt rfl)),rfl,_,hT⟩
theorem r15_size_1 {x y:Int} {a:Option Addr} {n c:Nat} {z0:Int} (hs:Sat M w) (hc:∀ (w':World) (M':Mem mb),Le M M'→Sat M' w'→Dz 65 #[.agg #[.int .i64 x, .int .i64 y, .slice a n c]] w' (fun v w''=>v = .int .i64 z0∧∃ M'',Step Nope M' w' M'' w'')):
  Dz 32 #[.agg #[.int .i64 1, .int .i64 x, .int .i64 y, .slice a n c, .slice none 0 0, .int .i64 0, .int .i64 0, .slice none 0 0, .int .i64 0, .slice none 0 0, .bool false, .int .i64 0, .int .i64 0, .slice none 0 0, .bool false, .int .i64 0, .int .i64 0, .slice none 0 0]] w (fun v w''=>v = .int .i64 z0∧∃ M'',Step Nope M w M'' w''):=by
 have hT:=hs.r
 refine Fe Tryz.func32 [.tmp 2] rfl<|Ri fun Z=>Bm hs rfl fun b1 M1 w1 hs1 hb1 e1=>?_
 have:=hs1.size
 refine Na rfl Z<|cw_seq fun _ hK2=>Ri fun Z=>Qf 0 rfl<|Q1 rfl (BC hs1 hb1 rfl)<|Nx Z<|cw_block<|Ri fun Z=>Qq rfl (qET rfl)<|Na rfl Z<|cw_true rfl<|Ri fun Z=>Qf 1 rfl<|Qc 3 rfl (BD hs1 hb1 rfl) ?_
 have hT:=hT.t hs1
 refine Ca rfl ((hc _ _ hT.le hs1.sat).mono ?_)
 rintro _ w2 ⟨rfl,Mm,hs2⟩
 have:=hs2.size
 refine Na rfl Z<|cw_ret ?_
 have hT:=hT.t hs2
 exact ⟨_,Rt rfl,rfl,_,hT⟩
theorem r15_size_2 {a:Option Addr} {n c:Nat} {z0:Int} (hs:Sat M w) (hc:∀ (w':World) (M':Mem mb),Le M M'→Sat M' w'→Dz 66 #[.agg #[.slice a n c]] w' (fun v w''=>v = .int .i64 z0∧∃ M'',Step Nope M' w' M'' w'')):
  Dz 32 #[.agg #[.int .i64 2, .int .i64 0, .int .i64 0, .slice none 0 0, .slice a n c, .int .i64 0, .int .i64 0, .slice none 0 0, .int .i64 0, .slice none 0 0, .bool false, .int .i64 0, .int .i64 0, .slice none 0 0, .bool false, .int .i64 0, .int .i64 0, .slice none 0 0]] w (fun v w''=>v = .int .i64 z0∧∃ M'',Step Nope M w M'' w''):=by
 have hT:=hs.r
 refine Fe Tryz.func32 [.tmp 2] rfl<|Ri fun Z=>Bm hs rfl fun b1 M1 w1 hs1 hb1 e1=>?_
 have:=hs1.size
 refine Na rfl Z<|cw_seq fun _ hK2=>Ri fun Z=>Qf 0 rfl<|Q1 rfl (BC hs1 hb1 rfl)<|Nx Z<|cw_block<|Ri fun Z=>Qq rfl (qEF rfl)<|Na rfl Z<|cw_false rfl<|Ri fun Z=>Qq rfl (qET rfl)<|Na rfl Z<|cw_true rfl<|Ri fun Z=>Qf 4 rfl<|Qc 1 rfl (BD hs1 hb1 rfl) ?_
 have hT:=hT.t hs1
 refine Ca rfl ((hc _ _ hT.le hs1.sat).mono ?_)
 rintro _ w2 ⟨rfl,Mm,hs2⟩
 have:=hs2.size
 refine Na rfl Z<|cw_ret ?_
 have hT:=hT.t hs2
 exact ⟨_,Rt rfl,rfl,_,hT⟩
theorem r15_size_3 {x y z:Int} {a:Option Addr} {n c:Nat} {z0:Int} (hs:Sat M w) (hc:∀ (w':World) (M':Mem mb),Le M M'→Sat M' w'→Dz 67 #[.agg #[.int .i64 x, .int .i64 y, .slice a n c, .int .i64 z]] w' (fun v w''=>v = .int .i64 z0∧∃ M'',Step Nope M' w' M'' w'')):
  Dz 32 #[.agg #[.int .i64 3, .int .i64 0, .int .i64 0, .slice none 0 0, .slice none 0 0, .int .i64 x, .int .i64 y, .slice a n c, .int .i64 z, .slice none 0 0, .bool false, .int .i64 0, .int .i64 0, .slice none 0 0, .bool false, .int .i64 0, .int .i64 0, .slice none 0 0]] w (fun v w''=>v = .int .i64 z0∧∃ M'',Step Nope M w M'' w''):=by
 have hT:=hs.r
 refine Fe Tryz.func32 [.tmp 2] rfl<|Ri fun Z=>Bm hs rfl fun b1 M1 w1 hs1 hb1 e1=>?_
 have:=hs1.size
 refine Na rfl Z<|cw_seq fun _ hK2=>Ri fun Z=>Qf 0 rfl<|Q1 rfl (BC hs1 hb1 rfl)<|Nx Z<|cw_block<|Ri fun Z=>Qq rfl (qEF rfl)<|Na rfl Z<|cw_false rfl<|Ri fun Z=>Qq rfl (qEF rfl)<|Na rfl Z<|cw_false rfl<|Ri fun Z=>Qq rfl (qET rfl)<|Na rfl Z<|cw_true rfl<|Ri fun Z=>Qf 5 rfl<|Qc 4 rfl (BD hs1 hb1 rfl) ?_
 have hT:=hT.t hs1
 refine Ca rfl ((hc _ _ hT.le hs1.sat).mono ?_)
 rintro _ w2 ⟨rfl,Mm,hs2⟩
 have:=hs2.size
 refine Na rfl Z<|cw_ret ?_
 have hT:=hT.t hs2
 exact ⟨_,Rt rfl,rfl,_,hT⟩
theorem r15_size_4 {a:Option Addr} {n c:Nat} {z0:Int} (hs:Sat M w) (hc:∀ (w':World) (M':Mem mb),Le M M'→Sat M' w'→Dz 68 #[.agg #[.slice a n c]] w' (fun v w''=>v = .int .i64 z0∧∃ M'',Step Nope M' w' M'' w'')):
  Dz 32 #[.agg #[.int .i64 4, .int .i64 0, .int .i64 0, .slice none 0 0, .slice none 0 0, .int .i64 0, .int .i64 0, .slice none 0 0, .int .i64 0, .slice a n c, .bool false, .int .i64 0, .int .i64 0, .slice none 0 0, .bool false, .int .i64 0, .int .i64 0, .slice none 0 0]] w (fun v w''=>v = .int .i64 z0∧∃ M'',Step Nope M w M'' w''):=by
 have hT:=hs.r
 refine Fe Tryz.func32 [.tmp 2] rfl<|Ri fun Z=>Bm hs rfl fun b1 M1 w1 hs1 hb1 e1=>?_
 have:=hs1.size
 refine Na rfl Z<|cw_seq fun _ hK2=>Ri fun Z=>Qf 0 rfl<|Q1 rfl (BC hs1 hb1 rfl)<|Nx Z<|cw_block<|Ri fun Z=>Qq rfl (qEF rfl)<|Na rfl Z<|cw_false rfl<|Ri fun Z=>Qq rfl (qEF rfl)<|Na rfl Z<|cw_false rfl<|Ri fun Z=>Qq rfl (qEF rfl)<|Na rfl Z<|cw_false rfl<|Ri fun Z=>Qq rfl (qET rfl)<|Na rfl Z<|cw_true rfl<|Ri fun Z=>Qf 9 rfl<|Qc 1 rfl (BD hs1 hb1 rfl) ?_
 have hT:=hT.t hs1
 refine Ca rfl ((hc _ _ hT.le hs1.sat).mono ?_)
 rintro _ w2 ⟨rfl,Mm,hs2⟩
 have:=hs2.size
 refine Na rfl Z<|cw_ret ?_
 have hT:=hT.t hs2
 exact ⟨_,Rt rfl,rfl,_,hT⟩
theorem r15_size_5 {b:Bool} {x y:Int} {a:Option Addr} {n c:Nat} {z0:Int} (hs:Sat M w) (hc:∀ (w':World) (M':Mem mb),Le M M'→Sat M' w'→Dz 69 #[.agg #[.bool b, .int .i64 x, .int .i64 y, .slice a n c]] w' (fun v w''=>v = .int .i64 z0∧∃ M'',Step Nope M' w' M'' w'')):
  Dz 32 #[.agg #[.int .i64 5, .int .i64 0, .int .i64 0, .slice none 0 0, .slice none 0 0, .int .i64 0, .int .i64 0, .slice none 0 0, .int .i64 0, .slice none 0 0, .bool b, .int .i64 x, .int .i64 y, .slice a n c, .bool false, .int .i64 0, .int .i64 0, .slice none 0 0]] w (fun v w''=>v = .int .i64 z0∧∃ M'',Step Nope M w M'' w''):=by
 have hT:=hs.r
 refine Fe Tryz.func32 [.tmp 2] rfl<|Ri fun Z=>Bm hs rfl fun b1 M1 w1 hs1 hb1 e1=>?_
 have:=hs1.size
 refine Na rfl Z<|cw_seq fun _ hK2=>Ri fun Z=>Qf 0 rfl<|Q1 rfl (BC hs1 hb1 rfl)<|Nx Z<|cw_block<|Ri fun Z=>Qq rfl (qEF rfl)<|Na rfl Z<|cw_false rfl<|Ri fun Z=>Qq rfl (qEF rfl)<|Na rfl Z<|cw_false rfl<|Ri fun Z=>Qq rfl (qEF rfl)<|Na rfl Z<|cw_false rfl<|Ri fun Z=>Qq rfl (qEF rfl)<|Na rfl Z<|cw_false rfl<|Ri fun Z=>Qq rfl (qET rfl)<|Na rfl Z<|cw_true rfl<|Ri fun Z=>Qf 10 rfl<|Qc 4 rfl (BD hs1 hb1 rfl) ?_
 have hT:=hT.t hs1
 refine Ca rfl ((hc _ _ hT.le hs1.sat).mono ?_)
 rintro _ w2 ⟨rfl,Mm,hs2⟩
 have:=hs2.size
 refine Na rfl Z<|cw_ret ?_
 have hT:=hT.t hs2
 exact ⟨_,Rt rfl,rfl,_,hT⟩
theorem r15_size_6 {b:Bool} {x y:Int} {a:Option Addr} {n c:Nat} {z0:Int} (hs:Sat M w) (hc:∀ (w':World) (M':Mem mb),Le M M'→Sat M' w'→Dz 70 #[.agg #[.bool b, .int .i64 x, .int .i64 y, .slice a n c]] w' (fun v w''=>v = .int .i64 z0∧∃ M'',Step Nope M' w' M'' w'')):
  Dz 32 #[.agg #[.int .i64 6, .int .i64 0, .int .i64 0, .slice none 0 0, .slice none 0 0, .int .i64 0, .int .i64 0, .slice none 0 0, .int .i64 0, .slice none 0 0, .bool false, .int .i64 0, .int .i64 0, .slice none 0 0, .bool b, .int .i64 x, .int .i64 y, .slice a n c]] w (fun v w''=>v = .int .i64 z0∧∃ M'',Step Nope M w M'' w''):=by
 have hT:=hs.r
 refine Fe Tryz.func32 [.tmp 2] rfl<|Ri fun Z=>Bm hs rfl fun b1 M1 w1 hs1 hb1 e1=>?_
 have:=hs1.size
 refine Na rfl Z<|cw_seq fun _ hK2=>Ri fun Z=>Qf 0 rfl<|Q1 rfl (BC hs1 hb1 rfl)<|Nx Z<|cw_block<|Ri fun Z=>Qq rfl (qEF rfl)<|Na rfl Z<|cw_false rfl<|Ri fun Z=>Qq rfl (qEF rfl)<|Na rfl Z<|cw_false rfl<|Ri fun Z=>Qq rfl (qEF rfl)<|Na rfl Z<|cw_false rfl<|Ri fun Z=>Qq rfl (qEF rfl)<|Na rfl Z<|cw_false rfl<|Ri fun Z=>Qq rfl (qEF rfl)<|Na rfl Z<|cw_false rfl<|Ri fun Z=>Qq rfl (qET rfl)<|Na rfl Z<|cw_true rfl<|Ri fun Z=>Qf 14 rfl<|Qc 4 rfl (BD hs1 hb1 rfl) ?_
 have hT:=hT.t hs1
 refine Ca rfl ((hc _ _ hT.le hs1.sat).mono ?_)
 rintro _ w2 ⟨rfl,Mm,hs2⟩
 have:=hs2.size
 refine Na rfl Z<|cw_ret ?_
 have hT:=hT.t hs2
 exact ⟨_,Rt rfl,rfl,_,hT⟩
end Go.Proofs.YtnnldppehojffaaGreat
/- The reference of any kind, as the model has it, part 1. -/
namespace Go.Proofs.YtnnldppehojffaaGreat
open Go Go.Eng
variable {mb:Option Nat} {w:World} {M:Mem mb}
theorem r15_insert {x0:El} {H:HM} {cs:List Value} (hs:Sat M w) (h:H15 M H cs) (ho:H.ok) (hz:H.els.length<1000000000):
  Dz 21 #[.agg (elc x0).toArray, .agg cs.toArray] w (fun v w'=>∃ cv c M',v = .tuple #[.agg cv.toArray,wv c]∧Step Nope M w M' w'∧H15 M' (H.insert x0) cv):=by
 cases H with
 | z=>exact h.elim
 | a t=>
  obtain ⟨x,y,a,n,c,h,rfl⟩:=h
  exact (r15_insert_1 (R:=fun M c=>H6 M (t.insert x0) c) (cost:=t.insertC x0) hs fun w' M' hle hs'=>(h6_insert hs' (h6_mono _ _ _ _ hle h) (by have:=Lft.els_size t; simp only [HM.els] at hz; omega)).mono fun v w'' ⟨cv,M'',e1,h1,h2⟩=>by
    obtain ⟨x,y,a,n,c,rfl⟩:=h2.shape
    exact ⟨x,y,a,n,c,M'',e1,h1,h2⟩).mono fun v w'' ⟨x,y,a,n,c,M'',e1,h1,h2⟩=>⟨_,_,M'',e1,h1,x,y,a,n,c,h2,rfl⟩
 | b t=>
  obtain ⟨a,n,c,h,rfl⟩:=h
  exact (r15_insert_2 (R:=fun M c=>∀ v,c=[v]→Row T5 6 M (bput ltE (RT.leaf x0) t) v) (cost:=1+bputC ltE (RT.leaf x0) t) hs fun w' M' hle hs'=>(r7_insert hs' (h.mono t5_ok hle) (by have:=RT.alls_length t; simp only [HM.els] at hz; omega)).mono fun v w'' ⟨v',M'',e1,h1,h2⟩=>by
    obtain ⟨a,c,rfl,_⟩:=h2.slice
    exact ⟨a,_,c,M'',e1,h1,fun v e=>by cases e; exact h2⟩).mono fun v w'' ⟨a,n,c,M'',e1,h1,h2⟩=>⟨_,_,M'',e1,h1,a,n,c,h2 _ rfl,rfl⟩
 | c t=>
  obtain ⟨x,y,z,a,n,c,h,nn,rfl⟩:=h
  exact (r15_insert_3 (R:=fun M c=>H8 M (t.insert x0) c) (cost:=t.insertC x0) hs fun w' M' hle hs'=>(r8_insert hs' (h8_mono hle h) nn (by have:=Pr.els_size t; simp only [HM.els] at hz; omega)).mono fun v w'' ⟨cv,M'',e1,h1,h2⟩=>by
    obtain ⟨x,y,a,n,c,rfl⟩:=h2.shape
    exact ⟨x,y,_,a,n,c,M'',e1,h1,h2⟩).mono fun v w'' ⟨x,y,z,a,n,c,M'',e1,h1,h2⟩=>⟨_,_,M'',e1,h1,x,y,z,a,n,c,h2,(Pr.insert_nn nn),rfl⟩
 | d t=>
  obtain ⟨a,n,c,h,rfl⟩:=h
  exact (r15_insert_4 (R:=fun M c=>∀ v,c=[v]→Row T5 6 M (sinsert ltE x0 t) v) (cost:=sinsertC t) hs fun w' M' hle hs'=>(r9_insert hs' (h.mono t5_ok hle) (by have:=RT.alls_length t; simp only [HM.els] at hz; omega)).mono fun v w'' ⟨v',M'',e1,h1,h2⟩=>by
    obtain ⟨a,c,rfl,_⟩:=h2.slice
    exact ⟨a,_,c,M'',e1,h1,fun v e=>by cases e; exact h2⟩).mono fun v w'' ⟨a,n,c,M'',e1,h1,h2⟩=>⟨_,_,M'',e1,h1,a,n,c,h2 _ rfl,rfl⟩
 | e t=>
  obtain ⟨b,x,y,a,n,c,h,rfl⟩:=h
  exact (r15_insert_5 (R:=fun M c=>H10 M (t.insert x0) c) (cost:=t.insertC) hs fun w' M' hle hs'=>(r10_insert hs' (h.mono hle) (by have:=Ro.els_size t; simp only [HM.els] at hz; omega)).mono fun v w'' ⟨cv,M'',e1,h1,h2⟩=>by
    obtain ⟨b,x,y,a,n,c,rfl⟩:=h2.shape
    exact ⟨b,x,y,a,n,c,M'',e1,h1,h2⟩).mono fun v w'' ⟨b,x,y,a,n,c,M'',e1,h1,h2⟩=>⟨_,_,M'',e1,h1,b,x,y,a,n,c,h2,rfl⟩
 | f t=>
  obtain ⟨b,x,y,a,n,c,h,rfl⟩:=h
  exact (r15_insert_6 (R:=fun M c=>B11 M (t.insert x0) c) (cost:=t.insertC x0) hs fun w' M' hle hs'=>(r11_insert hs' (b11_mono hle h) (ok_queue ho) (by have:=Bt.queue_els ho; simp only [HM.els] at hz; omega)).mono fun v w'' ⟨cv,M'',e1,h1,h2⟩=>by
    obtain ⟨x,y,a,n,c,rfl,_⟩:=h2.shape
    exact ⟨_,x,y,a,n,c,M'',e1,h1,h2⟩).mono fun v w'' ⟨b,x,y,a,n,c,M'',e1,h1,h2⟩=>⟨_,_,M'',e1,h1,b,x,y,a,n,c,h2,rfl⟩
theorem r15_meld {H G:HM} {cs ds:List Value} (hs:Sat M w) (h:H15 M H cs) (h9:H15 M G ds) (hk:H.kind=G.kind) (ho:H.ok) (ho9:G.ok) (hz:H.els.length+G.els.length<1000000000):
  Dz 22 #[.agg cs.toArray, .agg ds.toArray] w (fun v w'=>∃ cv c M',v = .tuple #[.agg cv.toArray,wv c]∧Step Nope M w M' w'∧H15 M' (H.meld G) cv):=by
 cases H with
 | z=>exact h.elim
 | a t=>
  obtain ⟨x,y,a,n,c,h,rfl⟩:=h
  cases G with
  | a u=>
   obtain ⟨x9,y9,a9,n9,c9,h9,rfl⟩:=h9
   exact (r15_meld_1 (R:=fun M c=>H6 M (t.meld u) c) (cost:=t.meldC u) hs fun w' M' hle hs'=>(h6_meld hs' (h6_mono _ _ _ _ hle h) (h6_mono _ _ _ _ hle h9) (by have:=Lft.els_size t; have:=Lft.els_size u; simp only [HM.els] at hz; omega)).mono fun v w'' ⟨cv,M'',e1,h1,h2⟩=>by
    obtain ⟨x,y,a,n,c,rfl⟩:=h2.shape
    exact ⟨x,y,a,n,c,M'',e1,h1,h2⟩).mono fun v w'' ⟨x,y,a,n,c,M'',e1,h1,h2⟩=>⟨_,_,M'',e1,h1,x,y,a,n,c,h2,rfl⟩
  | z=>exact h9.elim
  | b _=>cases hk
  | c _=>cases hk
  | d _=>cases hk
  | e _=>cases hk
  | f _=>cases hk
 | b t=>
  obtain ⟨a,n,c,h,rfl⟩:=h
  cases G with
  | b u=>
   obtain ⟨a9,n9,c9,h9,rfl⟩:=h9
   exact (r15_meld_2 (R:=fun M c=>∀ v,c=[v]→Row T5 6 M (bmeld ltE t u) v) (cost:=bmeldC ltE t u) hs fun w' M' hle hs'=>(r7_meld hs' (h.mono t5_ok hle) (h9.mono t5_ok hle) (by have:=RT.alls_length t; have:=RT.alls_length u; simp only [HM.els] at hz; omega)).mono fun v w'' ⟨v',M'',e1,h1,h2⟩=>by
    obtain ⟨a,c,rfl,_⟩:=h2.slice
    exact ⟨a,_,c,M'',e1,h1,fun v e=>by cases e; exact h2⟩).mono fun v w'' ⟨a,n,c,M'',e1,h1,h2⟩=>⟨_,_,M'',e1,h1,a,n,c,h2 _ rfl,rfl⟩
  | z=>exact h9.elim
  | a _=>cases hk
  | c _=>cases hk
  | d _=>cases hk
  | e _=>cases hk
  | f _=>cases hk
 | c t=>
  obtain ⟨x,y,z,a,n,c,h,nn,rfl⟩:=h
  cases G with
  | c u=>
   obtain ⟨x9,y9,z9,a9,n9,c9,h9,nn9,rfl⟩:=h9
   exact (r15_meld_3 (R:=fun M c=>H8 M (t.meld u) c) (cost:=t.meldC u) hs fun w' M' hle hs'=>(r8_meld hs' (h8_mono hle h) (h8_mono hle h9) nn nn9 (by have:=Pr.els_size t; have:=Pr.els_size u; simp only [HM.els] at hz; omega)).mono fun v w'' ⟨cv,M'',e1,h1,h2⟩=>by
    obtain ⟨x,y,a,n,c,rfl⟩:=h2.shape
    exact ⟨x,y,_,a,n,c,M'',e1,h1,h2⟩).mono fun v w'' ⟨x,y,z,a,n,c,M'',e1,h1,h2⟩=>⟨_,_,M'',e1,h1,x,y,z,a,n,c,h2,(Pr.meld_nn nn nn9),rfl⟩
  | z=>exact h9.elim
  | a _=>cases hk
  | b _=>cases hk
  | d _=>cases hk
  | e _=>cases hk
  | f _=>cases hk
 | d t=>
  obtain ⟨a,n,c,h,rfl⟩:=h
  cases G with
  | d u=>
   obtain ⟨a9,n9,c9,h9,rfl⟩:=h9
   exact (r15_meld_4 (R:=fun M c=>∀ v,c=[v]→Row T5 6 M (smeld ltE t u) v) (cost:=smeldC ltE t u) hs fun w' M' hle hs'=>(r9_meld hs' (h.mono t5_ok hle) (h9.mono t5_ok hle) (by have:=RT.alls_length t; have:=RT.alls_length u; simp only [HM.els] at hz; omega)).mono fun v w'' ⟨v',M'',e1,h1,h2⟩=>by
    obtain ⟨a,c,rfl,_⟩:=h2.slice
    exact ⟨a,_,c,M'',e1,h1,fun v e=>by cases e; exact h2⟩).mono fun v w'' ⟨a,n,c,M'',e1,h1,h2⟩=>⟨_,_,M'',e1,h1,a,n,c,h2 _ rfl,rfl⟩
  | z=>exact h9.elim
  | a _=>cases hk
  | b _=>cases hk
  | c _=>cases hk
  | e _=>cases hk
  | f _=>cases hk
 | e t=>
  obtain ⟨b,x,y,a,n,c,h,rfl⟩:=h
  cases G with
  | e u=>
   obtain ⟨b9,x9,y9,a9,n9,c9,h9,rfl⟩:=h9
   exact (r15_meld_5 (R:=fun M c=>H10 M (t.meld u) c) (cost:=t.meldC u) hs fun w' M' hle hs'=>(r10_meld hs' (h.mono hle) (h9.mono hle) (by have:=Ro.els_size t; have:=Ro.els_size u; simp only [HM.els] at hz; omega)).mono fun v w'' ⟨cv,M'',e1,h1,h2⟩=>by
    obtain ⟨b,x,y,a,n,c,rfl⟩:=h2.shape
    exact ⟨b,x,y,a,n,c,M'',e1,h1,h2⟩).mono fun v w'' ⟨b,x,y,a,n,c,M'',e1,h1,h2⟩=>⟨_,_,M'',e1,h1,b,x,y,a,n,c,h2,rfl⟩
  | z=>exact h9.elim
  | a _=>cases hk
  | b _=>cases hk
  | c _=>cases hk
  | d _=>cases hk
  | f _=>cases hk
 | f t=>
  obtain ⟨b,x,y,a,n,c,h,rfl⟩:=h
  cases G with
  | f u=>
   obtain ⟨b9,x9,y9,a9,n9,c9,h9,rfl⟩:=h9
   exact (r15_meld_6 (R:=fun M c=>B11 M (t.meld u) c) (cost:=t.meldC u) hs fun w' M' hle hs'=>(r11_meld hs' (b11_mono hle h) (b11_mono hle h9) (ok_queue ho) (ok_queue ho9) (by have:=Bt.queue_els ho; have:=Bt.queue_els ho9; simp only [HM.els] at hz; omega)).mono fun v w'' ⟨cv,M'',e1,h1,h2⟩=>by
    obtain ⟨x,y,a,n,c,rfl,_⟩:=h2.shape
    exact ⟨_,x,y,a,n,c,M'',e1,h1,h2⟩).mono fun v w'' ⟨b,x,y,a,n,c,M'',e1,h1,h2⟩=>⟨_,_,M'',e1,h1,b,x,y,a,n,c,h2,rfl⟩
  | z=>exact h9.elim
  | a _=>cases hk
  | b _=>cases hk
  | c _=>cases hk
  | d _=>cases hk
  | e _=>cases hk
theorem r15_size {H:HM} {cs:List Value} (hs:Sat M w) (h:H15 M H cs) (ho:H.ok) (hz:H.els.length≤1000000000):
  Dz 32 #[.agg cs.toArray] w (fun v w'=>v = .int .i64 (H.els.length:Nat)∧∃ M',Step Nope M w M' w'):=by
 cases H with
 | z=>exact h.elim
 | a t=>
  obtain ⟨x,y,a,n,c,h,rfl⟩:=h
  exact r15_size_1 hs fun w' M' hle hs'=>((h6_size hs' (h6_mono _ _ _ _ hle h) (by have:=Lft.els_size t; simp only [HM.els] at hz; omega)).mono fun v w'' ⟨e,h2⟩=>⟨by rw [e]; exact congrArg (Value.int .i64) (by rw [HM.els,Lft.els_size]),_,h2⟩)
 | b t=>
  obtain ⟨a,n,c,h,rfl⟩:=h
  exact r15_size_2 hs fun w' M' hle hs'=>((r7_size hs' (h.mono t5_ok hle) (by have:=RT.alls_length t; simp only [HM.els] at hz; omega)).mono fun v w'' ⟨e,h2⟩=>⟨by rw [e]; exact congrArg (Value.int .i64) (by rw [HM.els,RT.alls_length]),_,h2⟩)
 | c t=>
  obtain ⟨x,y,z,a,n,c,h,nn,rfl⟩:=h
  exact r15_size_3 hs fun w' M' hle hs'=>((r8_size hs' (h8_mono hle h)).mono fun v w'' ⟨e,h2⟩=>⟨by rw [e]; exact congrArg (Value.int .i64) (by rw [HM.els,Pr.els_size]),_,h2⟩)
 | d t=>
  obtain ⟨a,n,c,h,rfl⟩:=h
  exact r15_size_4 hs fun w' M' hle hs'=>((r9_size hs' (h.mono t5_ok hle) (by have:=RT.alls_length t; simp only [HM.els] at hz; omega)).mono fun v w'' ⟨e,h2⟩=>⟨by rw [e]; exact congrArg (Value.int .i64) (by rw [HM.els,RT.alls_length]),_,h2⟩)
 | e t=>
  obtain ⟨b,x,y,a,n,c,h,rfl⟩:=h
  exact r15_size_5 hs fun w' M' hle hs'=>((r10_size hs' (h.mono hle) (by have:=Ro.els_size t; simp only [HM.els] at hz; omega)).mono fun v w'' ⟨e,h2⟩=>⟨by rw [e]; exact congrArg (Value.int .i64) (by rw [HM.els,Ro.els_size]),_,h2⟩)
 | f t=>
  obtain ⟨b,x,y,a,n,c,h,rfl⟩:=h
  exact r15_size_6 hs fun w' M' hle hs'=>(r11_size_all _ _ _ t _ hs' (b11_mono hle h) ho (Nat.lt_succ_self _) hz)
theorem r15_min {H:HM} {cs:List Value} (hs:Sat M w) (h:H15 M H cs) (hne:H.els≠[]) (hz:H.els.length≤1000000000):
  Dz 33 #[.agg cs.toArray] w (fun v w'=>v = .tuple #[.agg (elc H.min).toArray,wv H.minC]∧∃ M',Step Nope M w M' w'):=by
 cases H with
 | z=>exact h.elim
 | a t=>
  obtain ⟨x,y,a,n,c,h,rfl⟩:=h
  cases t with
  | nil=>exact absurd rfl hne
  | node x1 l r=>exact r15_min_1 hs fun w' M' hle hs'=>(h6_min hs' (h6_mono _ _ _ _ hle h)).mono fun v w'' ⟨e,h2⟩=>⟨e,_,h2⟩
 | b t=>
  obtain ⟨a,n,c,h,rfl⟩:=h
  obtain ⟨⟨x1,bs,ks⟩,hk⟩:=least_is (lt:=ltE) (l:=t) (fun e=>hne (by rw [e]; rfl))
  have hl:=RT.sizes_length t
  have hm:HM.min (.b t)=x1:=by simp only [HM.min,show lst ltE t=some _ from hk]; rfl
  rw [hm]
  exact r15_min_2 hs fun w' M' hle hs'=>(r7_min hs' (h.mono t5_ok hle) hk (by have:=RT.alls_length t; simp only [HM.els] at hz; omega)).mono fun v w'' ⟨e,h2⟩=>⟨e,_,h2⟩
 | c t=>
  obtain ⟨x,y,z,a,n,c,h,nn,rfl⟩:=h
  cases t with
  | nil=>exact absurd (by simp only [HM.els,Pr.els]) hne
  | node x1 ks=>exact r15_min_3 hs fun w' M' hle hs'=>(r8_min hs' (h8_mono hle h)).mono fun v w'' ⟨e,h2⟩=>⟨e,_,h2⟩
 | d t=>
  obtain ⟨a,n,c,h,rfl⟩:=h
  obtain ⟨⟨x1,bs,ks⟩,hk⟩:=least_is (lt:=ltE) (l:=t) (fun e=>hne (by rw [e]; rfl))
  have hl:=RT.sizes_length t
  have hm:HM.min (.d t)=x1:=by simp only [HM.min,show lst ltE t=some _ from hk]; rfl
  rw [hm]
  exact r15_min_4 hs fun w' M' hle hs'=>(r9_min hs' (h.mono t5_ok hle) hk (by have:=RT.alls_length t; simp only [HM.els] at hz; omega)).mono fun v w'' ⟨e,h2⟩=>⟨e,_,h2⟩
 | e t=>
  obtain ⟨b,x,y,a,n,c,h,rfl⟩:=h
  cases t with
  | nil=>exact absurd rfl hne
  | node x1 ts=>exact r15_min_5 hs fun w' M' hle hs'=>(r10_min hs' (h.mono hle)).mono fun v w'' ⟨e,h2⟩=>⟨e,_,h2⟩
 | f t=>
  obtain ⟨b,x,y,a,n,c,h,rfl⟩:=h
  cases t with
  | nil=>exact absurd (by simp only [HM.els,Bt.els]) hne
  | node x1 ts=>exact r15_min_6 hs fun w' M' hle hs'=>(r11_min hs' (b11_mono hle h)).mono fun v w'' ⟨e,h2⟩=>⟨e,_,h2⟩
theorem r15_pop {H:HM} {cs:List Value} (hs:Sat M w) (h:H15 M H cs) (ho:H.ok) (hne:H.els≠[]) (hz:H.els.length≤1000000000):
  Dz 26 #[.agg cs.toArray] w (fun v w'=>∃ cv M',v = .tuple #[.agg cv.toArray,wv (HM.popC H)]∧Step Nope M w M' w'∧H15 M' (HM.pop H) cv):=by
 cases H with
 | z=>exact h.elim
 | a t=>
  obtain ⟨x,y,a,n,c,h,rfl⟩:=h
  cases t with
  | nil=>exact absurd rfl hne
  | node x1 l r=>
   exact (r15_pop_1 (R:=fun M c=>H6 M (l.meld r) c) (cost:=l.meldC r) hs fun w' M' hle hs'=>(h6_pop hs' (h6_mono _ _ _ _ hle h) (by have:=Lft.els_size (.node x1 l r); simp only [HM.els] at hz; omega)).mono fun v w'' ⟨cv,M'',e1,h1,h2⟩=>by
    obtain ⟨x,y,a,n,c,rfl⟩:=h2.shape
    exact ⟨x,y,a,n,c,M'',e1,h1,h2⟩).mono fun v w'' ⟨x,y,a,n,c,M'',e1,h1,h2⟩=>⟨_,M'',e1,h1,x,y,a,n,c,h2,rfl⟩
 | b t=>
  obtain ⟨a,n,c,h,rfl⟩:=h
  obtain ⟨⟨x1,bs,ks⟩,hk⟩:=least_is (lt:=ltE) (l:=t) (fun e=>hne (by rw [e]; rfl))
  rw [show HM.pop (.b t) = .b (bpop ltE t (.node x1 bs ks)) by simp only [HM.pop,show lst ltE t=some _ from hk],show HM.popC (.b t)=bpopC ltE t (.node x1 bs ks) by simp only [HM.popC,show lst ltE t=some _ from hk]]
  exact (r15_pop_2 (R:=fun M c=>∀ v,c=[v]→Row T5 6 M (bpop ltE t (.node x1 bs ks)) v) (cost:=bpopC ltE t (.node x1 bs ks)) hs fun w' M' hle hs'=>(r7_pop hs' (h.mono t5_ok hle) hk (by have:=RT.alls_length t; simp only [HM.els] at hz; omega)).mono fun v w'' ⟨v',M'',e1,h1,h2⟩=>by
    obtain ⟨a,c,rfl,_⟩:=h2.slice
    exact ⟨a,_,c,M'',e1,h1,fun v e=>by cases e; exact h2⟩).mono fun v w'' ⟨a,n,c,M'',e1,h1,h2⟩=>⟨_,M'',e1,h1,a,n,c,h2 _ rfl,rfl⟩
 | c t=>
  obtain ⟨x,y,z,a,n,c,h,nn,rfl⟩:=h
  cases t with
  | nil=>exact absurd (by simp only [HM.els,Pr.els]) hne
  | node x1 ks=>
   have hnn:Pr.nns ks:=by simpa only [Pr.nn] using nn
   exact (r15_pop_3 (R:=fun M c=>H8 M (Pr.pair ks) c) (cost:=Pr.pairC ks) hs fun w' M' hle hs'=>(r8_pop hs' (h8_mono hle h) hnn (by have:=Pr.els_size (.node x1 ks); simp only [HM.els] at hz; omega)).mono fun v w'' ⟨cv,M'',e1,h1,h2⟩=>by
    obtain ⟨x,y,a,n,c,rfl⟩:=h2.shape
    exact ⟨x,y,_,a,n,c,M'',e1,h1,h2⟩).mono fun v w'' ⟨x,y,z,a,n,c,M'',e1,h1,h2⟩=>⟨_,M'',e1,h1,x,y,z,a,n,c,h2,(Pr.pair_nn hnn),rfl⟩
 | d t=>
  obtain ⟨a,n,c,h,rfl⟩:=h
  obtain ⟨⟨x1,bs,ks⟩,hk⟩:=least_is (lt:=ltE) (l:=t) (fun e=>hne (by rw [e]; rfl))
  rw [show HM.pop (.d t) = .d (spop ltE t (.node x1 bs ks)) by simp only [HM.pop,show lst ltE t=some _ from hk],show HM.popC (.d t)=spopC ltE t (.node x1 bs ks) by simp only [HM.popC,show lst ltE t=some _ from hk]]
  exact (r15_pop_4 (R:=fun M c=>∀ v,c=[v]→Row T5 6 M (spop ltE t (.node x1 bs ks)) v) (cost:=spopC ltE t (.node x1 bs ks)) hs fun w' M' hle hs'=>(r9_pop hs' (h.mono t5_ok hle) hk (by have:=RT.alls_length t; simp only [HM.els] at hz; omega)).mono fun v w'' ⟨v',M'',e1,h1,h2⟩=>by
    obtain ⟨a,c,rfl,_⟩:=h2.slice
    exact ⟨a,_,c,M'',e1,h1,fun v e=>by cases e; exact h2⟩).mono fun v w'' ⟨a,n,c,M'',e1,h1,h2⟩=>⟨_,M'',e1,h1,a,n,c,h2 _ rfl,rfl⟩
 | e t=>
  obtain ⟨b,x,y,a,n,c,h,rfl⟩:=h
  cases t with
  | nil=>exact absurd (by simp only [HM.els,Ro.els]) hne
  | node x1 ts=>
   cases hts:ts with
   | nil=>
    subst hts
    exact (r15_pop_5 (R:=fun M c=>H10 M (.nil) c) (cost:=0) hs fun w' M' hle hs'=>(r10_pop_n hs' (h.mono hle)).mono fun v w'' ⟨cv,M'',e1,h1,h2⟩=>by
    obtain ⟨b,x,y,a,n,c,rfl⟩:=h2.shape
    exact ⟨b,x,y,a,n,c,M'',e1,h1,h2⟩).mono fun v w'' ⟨b,x,y,a,n,c,M'',e1,h1,h2⟩=>⟨_,M'',e1,h1,b,x,y,a,n,c,h2,rfl⟩
   | cons t0 r0=>
    obtain ⟨⟨x2,bs,ks⟩,hk⟩:=least_is (lt:=ltE) (l:=ts) (by rw [hts]; exact List.cons_ne_nil _ _)
    rw [← hts]
    rw [show HM.pop (.e (.node x1 ts)) = .e (.node x2 (spop ltE ts (.node x2 bs ks))) by simp only [HM.pop,show lst ltE ts=some _ from hk] <;> rfl,show HM.popC (.e (.node x1 ts))=ts.length-1+spopC ltE ts (.node x2 bs ks)+1 by simp only [HM.popC,show lst ltE ts=some _ from hk] <;> rfl]
    exact (r15_pop_5 (R:=fun M c=>H10 M (.node x2 (spop ltE ts (.node x2 bs ks))) c) (cost:=ts.length-1+spopC ltE ts (.node x2 bs ks)+1) hs fun w' M' hle hs'=>(r10_pop hs' (h.mono hle) hk (by have:=Ro.els_size (.node x1 ts); simp only [HM.els,Ro.size] at hz this; omega)).mono fun v w'' ⟨cv,M'',e1,h1,h2⟩=>by
    obtain ⟨b,x,y,a,n,c,rfl⟩:=h2.shape
    exact ⟨b,x,y,a,n,c,M'',e1,h1,h2⟩).mono fun v w'' ⟨b,x,y,a,n,c,M'',e1,h1,h2⟩=>⟨_,M'',e1,h1,b,x,y,a,n,c,h2,rfl⟩
 | f t=>
  obtain ⟨b,x,y,a,n,c,h,rfl⟩:=h
  cases t with
  | nil=>exact absurd (by simp only [HM.els,Bt.els]) hne
  | node x1 ts=>
   cases hts:ts with
   | nil=>
    subst hts
    exact (r15_pop_6 (R:=fun M c=>B11 M (.nil) c) (cost:=0) hs fun w' M' hle hs'=>(r11_pop_n hs' (b11_mono hle h)).mono fun v w'' ⟨cv,M'',e1,h1,h2⟩=>by
    obtain ⟨x,y,a,n,c,rfl,_⟩:=h2.shape
    exact ⟨_,x,y,a,n,c,M'',e1,h1,h2⟩).mono fun v w'' ⟨b,x,y,a,n,c,M'',e1,h1,h2⟩=>⟨_,M'',e1,h1,b,x,y,a,n,c,h2,rfl⟩
   | cons t0 r0=>
    obtain ⟨⟨x2,bs,ks⟩,hk⟩:=least_is (lt:=ltB) (l:=ts) (by rw [hts]; exact List.cons_ne_nil _ _)
    rw [← hts]
    have hoq:Bt.okQ ts:=ok_queue (t:= .node x1 ts) ho
    have hok:=okQ_get hoq hk
    cases x2 with
    | nil=>exact absurd rfl (okT_root hok)
    | node y us=>
    have hp:=spop_alls hk
    have hol:=Bt.okL_perm hp.symm ((Bt.okQ_alls _).2 hoq)
    have hoy:=(Bt.okL_iff _).1 hol _ (List.mem_cons_self ..)
    have hor:Bt.okL (RT.alls (spop ltB ts (.node (.node y us) bs ks))):=(Bt.okL_iff _).2 fun h hh=>(Bt.okL_iff _).1 hol h (List.mem_cons_of_mem _ hh)
    have hosp:=(Bt.okQ_alls _).1 hor
    have hqe:=Bt.queue_els ho
    have hqy:=Bt.queue_els hoy.2
    have hlp:=(Bt.elsL_perm hp).length_eq
    have hcr:=Bt.cntL_length (RT.alls (spop ltB ts (.node (.node y us) bs ks)))
    rw [Bt.cntL_els 1 _ hor,RT.alls_length] at hcr
    have hel:(Bt.node x1 ts).els.length=1+(Bt.elsL (RT.alls ts)).length:=by simp only [Bt.els,List.length_cons,Bt.elsQ_alls]; omega
    simp only [Bt.elsL,List.length_append,RT.root] at hlp
    simp only [Bt.queue,RT.root] at hqe hqy
    simp only [HM.els] at hz
    rw [show HM.pop (.f (.node x1 ts)) = .f (Bt.popped ts (.node (.node y us) bs ks) y us) by simp only [HM.pop,show lst ltB ts=some _ from hk] <;> rfl,show HM.popC (.f (.node x1 ts))=ts.length-1+spopC ltB ts (.node (.node y us) bs ks)+smeldC ltB us (spop ltB ts (.node (.node y us) bs ks))+1 by simp only [HM.popC,show lst ltB ts=some _ from hk] <;> rfl]
    exact (r15_pop_6 (R:=fun M c=>B11 M (Bt.popped ts (.node (.node y us) bs ks) y us) c) (cost:=ts.length-1+spopC ltB ts (.node (.node y us) bs ks)+smeldC ltB us (spop ltB ts (.node (.node y us) bs ks))+1) hs fun w' M' hle hs'=>(r11_pop (us:=us) hs' (b11_mono hle h) hoq (ok_queue (t:= .node y us) hoy.2) hosp hk O O).mono fun v w'' ⟨cv,M'',e1,h1,h2⟩=>by
    obtain ⟨x,y,a,n,c,rfl,_⟩:=h2.shape
    exact ⟨_,x,y,a,n,c,M'',e1,h1,h2⟩).mono fun v w'' ⟨b,x,y,a,n,c,M'',e1,h1,h2⟩=>⟨_,M'',e1,h1,b,x,y,a,n,c,h2,rfl⟩
end Go.Proofs.YtnnldppehojffaaGreat
/- The references: draining, part 1. -/
namespace Go.Proofs.YtnnldppehojffaaGreat
open Go Go.Eng
variable {mb:Option Nat} {w:World} {M:Mem mb}
end Go.Proofs.YtnnldppehojffaaGreat
namespace Go.Eng
open Go
variable {mb:Option Nat} {w:World} {M:Mem mb}
theorem RowB.lt {α:Type} {enc:Enc α} {sz e B:Nat} {ts:List α} {v:Value} (h:RowB e enc sz B w M ts v):∀ g,v.ownBlock=some g→g<w.heap.size:=by
 obtain ⟨cs,h1,_⟩:=h
 exact fun g hg=>h1.lt g hg
theorem RowB.ge {α:Type} {enc:Enc α} {sz e B:Nat} {ts:List α} {v:Value} (h:RowB e enc sz B w M ts v):∀ g,v.ownBlock=some g→B≤g:=by
 obtain ⟨cs,_,_,h3⟩:=h
 exact h3
theorem RowB.stepO {α:Type} {enc:Enc α} {sz e B i:Nat} {S:Nat→Prop} {w w':World} {M M':Mem mb} {ts:List α} {v:Value} (ok:EncOk enc sz) (h:RowB e enc sz B w M ts v) (k:StepC S i M w M' w') (hS:∀ g,v.ownBlock=some g→¬ S g):RowB e enc sz B w' M' ts v:=by
 obtain ⟨cs,h1,h2,h3⟩:=h
 exact ⟨cs,h1.step k hS,h2.mono ok.mono k.le,h3⟩
theorem h15_ok:EncOk H15 18:=⟨fun _ _ _ _ k h=>h.mono k,fun M x c h=>by
 obtain ⟨_,_,_,_,_,_,_,_,_,_,_,_,_,_,_,_,_,_,_,_,_,_,_,_,_,_,_,_,_,_,rfl⟩:=h.shape; rfl,fun M x c h v hv=>by
 obtain ⟨_,_,_,_,_,_,_,_,_,_,_,_,_,_,_,_,_,_,_,_,_,_,_,_,_,_,_,_,_,_,rfl⟩:=h.shape; simp only [List.mem_cons,List.not_mem_nil,or_false] at hv; rcases hv with rfl | rfl | rfl | rfl | rfl | rfl | rfl | rfl | rfl | rfl | rfl | rfl | rfl | rfl | rfl | rfl | rfl | rfl <;> rfl⟩
theorem HM.drain_nil {G:HM} {m:Nat} (h:G.els=[]):HM.drainC m G=0:=by
 cases m with
 | zero=>rfl
 | succ m=>rw [HM.drainC,if_pos h]
theorem HM.drain_one {G:HM} (h:G.els≠[]):HM.drainC 1 G=G.minC:=by rw [HM.drainC,if_neg h,if_pos rfl]; rfl
theorem HM.drain_more {G:HM} {m:Nat} (h:G.els≠[]) (hm:0<m):HM.drainC (m+1) G=G.minC+(G.popC+HM.drainC m G.pop):=by rw [HM.drainC,if_neg h,if_neg O]
end Go.Eng
namespace Go.Proofs.YtnnldppehojffaaGreat
open Go Go.Eng
variable {mb:Option Nat} {w:World} {M:Mem mb}
theorem r16_sorted {H:HM} {cs:List Value} (hs:Sat M w) (hG:H15 M H cs) (hok:H.ok) (hz:H.els.length≤1000000):
  Dz 10 #[.agg cs.toArray] w (fun v w'=>∃ v' M',v = .tuple #[v',wv (HM.drainC (H.els.length+1) H)]∧Step Nope M w M' w'∧Row EncE 2 M' (srtE H.els) v'):=by
 have hT:=hs.r
 obtain ⟨_,_,_,_,_,_,_,_,_,_,_,_,_,_,_,_,_,_,_,_,_,_,_,_,_,_,_,_,_,_,rfl⟩:=hG.shape
 refine Fe Tryz.func10 [.tmp 2, .tmp 3] rfl<|Ri fun Z=>?_
 have:=hT.size
 refine Bo hs rfl fun bh w1 hs1 hoh eh=>?_
 have:=hs1.size
 have:=hoh.1.lt
 refine Qa rfl<|Nar rfl Z fun Z=>Nar rfl Z fun Z=>Na rfl Z<|cw_seq fun _ hK4=>cw_block ?_
 have hT:=hT.t hs1
 refine cw_loop (fun mm l1 wL=>∃ (G:HM) (xs:List El) (vx:Value) (c:Nat) (cs:List Value) (ML:Mem mb),mm=G.els.length∧G.ok∧xs++srtE G.els=srtE H.els∧c+HM.drainC (G.els.length+1) G=HM.drainC (H.els.length+1) H∧True∧l1=[(1, .pointer (some ⟨bh,0,none⟩)),(4,vx),(5,wv c)]∧Step Nope M w ML wL∧w1.heap.size≤wL.heap.size∧Own wL ML bh cs 46∧H15 ML G cs∧RowB 29 EncE 2 w1.heap.size wL ML xs vx) (H.els.length) [(1, .pointer (some ⟨bh,0,none⟩)),(4, .slice none 0 0),(5,wv 0)] (.cons rfl (.cons rfl (.cons rfl (.nil _)))) ?_ ?_
 ·exact ⟨H,[],_,0,_,_,rfl,hok,rfl,Nat.zero_add _,trivial,rfl,hT,Nat.le_refl _,hoh,hG,RowB.none⟩
 have hBw:w.heap.size≤w1.heap.size∧bh<w1.heap.size∧w.heap.size≤bh:=⟨by omega,by omega,by omega⟩
 clear hT hG hoh
 rintro mm l1 wL ⟨G,xs,vx,c,cs,ML,rfl,hok,hxs0,hcc,_,rfl,hT,hwL,hoh,hG,hxs⟩
 obtain ⟨_,_,_,_,_,_,_,_,_,_,_,_,_,_,_,_,_,_,_,_,_,_,_,_,_,_,_,_,_,_,rfl⟩:=hG.shape
 obtain ⟨ax,cx,rfl⟩:=hxs.slice
 have hxslt:=hxs.lt
 have hxsge:=hxs.ge
 have hlen:xs.length+G.els.length=H.els.length:=by have:=congrArg List.length hxs0; rw [List.length_append,srtE_length,srtE_length] at this; exact this
 refine cw_seq fun _ hK5=>Ri fun Z=>Qc 18 rfl (OD hoh rfl)<|Ca rfl ((r15_size hT.sat hG hok O).mono ?_)
 rintro _ w2 ⟨rfl,Ms,hs2⟩
 have:=hs2.size
 refine Qq rfl (q_gt rfl rfl)<|Nx Z ?_
 have hG:=h15_ok.mono _ _ _ _ hs2.le hG
 have hoh:=hoh.t hs2
 have hxs:=hxs.then encE_ok hs2
 have hT:=hT.t hs2
 refine cw_cond rfl (fun hc0=>?_) (fun hc0=>?_)
 ·have hg0:0<G.els.length:=by have:=of_decide_eq_true hc0; omega
  have hne:G.els≠[]:=fun h=>by rw [h] at hg0; exact absurd hg0 (Nat.lt_irrefl 0)
  obtain ⟨x,l,hxl⟩:∃ x l,x::l=srtE G.els:=by
   cases h:srtE G.els with
   | nil=>have:=srtE_length G.els; rw [h,List.length_nil] at this; omega
   | cons x l=>exact ⟨x,l,rfl⟩
  have hp:=HM.pop_p hok hxl
  have hpl:G.pop.els.length+1=G.els.length:=by
   have h1:=srtE_length G.els
   have h2:=srtE_length G.pop.els
   rw [hp.2.2.2] at h2
   rw [← hxl,List.length_cons] at h1
   omega
  refine cw_skip<|hK5 _ _<|cw_block<|Ri fun Z=>Qc 18 rfl (OD hoh rfl)<|Ca rfl ((r15_min hs2.sat hG hne O).mono ?_)
  rintro _ w3 ⟨rfl,Mi,hs3⟩
  have:=hs3.size
  refine Qm rfl<|Qe rfl<|Qe rfl ?_
  have hT:=hT.t hs3
  have:=hT.size
  refine Al (.agg #[(.int .i64 0),(.int .i64 0)]) hs3.sat rfl fun bm w4 hs4 hom em=>?_
  have:=hs4.size
  have:=hom.1.lt
  refine St hs4.sat hom rfl fun w5 hs5 hom=>?_
  have hxs:=hxs.then encE_ok hs3 |>.then encE_ok hs4
  have hxs:=hxs.stepO encE_ok hs5 (fun g hg h=>by have h:g=_:=h; have:=hxslt g hg; have:=hxsge g hg; omega)
  have:=hs5.size
  have hom:=hom.all rfl
  refine Nar rfl Z fun Z=>?_
  have hoh:=hoh.t hs3 |>.t hs4 |>.u hs5
  refine Qc 18 rfl (OD hoh rfl) ?_
  have hG:=h15_ok.mono _ _ _ _ hs3.le hG
  refine Ca rfl ((r15_pop hs5.sat hG hok hne O).mono ?_)
  rintro _ w6 ⟨pcs,Mp,rfl,hs6,hP⟩
  obtain ⟨_,_,_,_,_,_,_,_,_,_,_,_,_,_,_,_,_,_,_,_,_,_,_,_,_,_,_,_,_,_,rfl⟩:=hP.shape
  have:=hs6.size
  refine Qm rfl<|Qe rfl<|Qe rfl ?_
  have hT:=hT.t hs4 |>.o hs5 |>.t hs6
  have:=hT.size
  refine Al (.agg #[(.int .i64 0),(.int .i64 0),(.int .i64 0),(.slice none 0 0),(.slice none 0 0),(.int .i64 0),(.int .i64 0),(.slice none 0 0),(.int .i64 0),(.slice none 0 0),(.bool false),(.int .i64 0),(.int .i64 0),(.slice none 0 0),(.bool false),(.int .i64 0),(.int .i64 0),(.slice none 0 0)]) hs6.sat rfl fun bp w7 hs7 hop ep=>?_
  have:=hs7.size
  have:=hop.1.lt
  refine St hs7.sat hop rfl fun w8 hs8 hop=>?_
  have hxs:=hxs.then encE_ok hs6 |>.then encE_ok hs7
  have hxs:=hxs.stepO encE_ok hs8 (fun g hg h=>by have h:g=_:=h; have:=hxslt g hg; have:=hxsge g hg; omega)
  have:=hs8.size
  have hop:=hop.all rfl
  refine Nar rfl Z fun Z=>Qm rfl ?_
  have hom:=hom.t hs6 |>.t hs7 |>.u hs8
  refine Qc 2 rfl (OD hom rfl)<|as_h rfl (h_buildM (e:=29) (size:=2) (zs:=[(.int .i64 0),(.int .i64 0)]) (cs:=[_,_]) V V V rfl hs8.sat rfl rfl rfl fun bK MK w9 hs9 hrK eK=>?_)
  have:=hs9.size
  have hxs:=hxs.then encE_ok hs9
  refine as_h rfl (h_appB encE_ok (e:=29) (bytes:=16) V hs9.sat hxs (Row.one encE_ok hrK (show EncE _ G.min _ from rfl)) rfl rfl (by have:=hlen; simp only [List.length_singleton]; omega) rfl O fun vxs2 w10 hs10 hxs2 hor10 hfl10=>?_)
  have hT:=hT.t hs7 |>.o hs8 |>.t hs9
  have hT:=hT.trans hs10 (fun k hk h=>by have:=hfl10 _ h; omega)
  obtain ⟨axs2,cxs2,rfl⟩:=hxs2.slice
  have:=hs10.size
  have hxs2lt:=hxs2.lt
  have hxs2ge:=hxs2.ge
  refine Nar rfl Z fun Z=>Qm rfl<|Qm rfl<|Qm rfl<|Qq rfl (q_addw rfl rfl)<|Qq rfl (q_addw rfl rfl)<|Na rfl Z<|cw_region fun _ Z=>?_
  have hop:=hop.t hs9 |>.step hs10 (fun h=>by have:=hfl10 _ h; have:=hxslt _ h; omega)
  refine Qc 18 rfl (OD hop rfl) ?_
  have hoh:=hoh.t hs6 |>.t hs7 |>.u hs8 |>.t hs9 |>.step hs10 (fun h=>by have:=hfl10 _ h; have:=hxslt _ h; omega)
  refine St hs10.sat hoh rfl fun w11 hs11 hoh=>?_
  have hxs2:=hxs2.stepO encE_ok hs11 (fun g hg h=>by have h:g=_:=h; have:=hxs2lt g hg; have:=hxs2ge g hg; omega)
  have:=hs11.size
  have hoh:=hoh.all rfl
  refine as_nil (Z _ _ ?_)
  have hP:=h15_ok.mono _ _ _ _ hs9.le hP
  have hT:=hT.o hs11
  refine ⟨_,_,?_,(.cons rfl (.cons rfl (.cons rfl (.nil _)))),G.pop,xs++[G.min],_,_,_,_,rfl,hp.2.1,?_,?_,trivial,rfl,hT,by omega,hoh,hP,hxs2⟩
  ·omega
  ·rw [hp.2.2.2,hp.1,List.append_assoc,List.singleton_append,hxl,hxs0]
  ·have h:=HM.drain_more (m:=G.els.length) hne hg0; rw [← hpl] at h; rw [← hcc,← hpl,h]; omega
 ·have hg0:G.els=[]:=List.eq_nil_of_length_eq_zero (by have:=of_decide_eq_false hc0; omega)
  rw [hg0,show srtE []=[] from rfl,List.append_nil] at hxs0
  rw [HM.drain_nil hg0] at hcc
  refine cw_exit<|hK4 _ _<|Ri fun Z=>Qm rfl<|Qm rfl<|Qa rfl<|Na rfl Z<|cw_ret ?_
  obtain ⟨Mz,hT2,hle,hrz,_⟩:=hxs.freeze encE_ok hT O
  exact ⟨_,(res_tmp rfl (Rt rfl)),_,Mz,tup_eq (by rw [← hcc]; rfl),hT2,hxs0 ▸ hrz⟩
theorem r16_top {H:HM} {z:Int} {cs:List Value} (hs:Sat M w) (hG:H15 M H cs) (hok:H.ok) (hz:H.els.length≤1000000) (hz0:0≤z):
  Dz 12 #[.agg cs.toArray, .int .i64 z] w (fun v w'=>∃ v' M',v = .tuple #[v',wv (HM.drainC z.toNat H)]∧Step Nope M w M' w'∧Row EncE 2 M' ((srtE H.els).take z.toNat) v'):=by
 have hT:=hs.r
 obtain ⟨_,_,_,_,_,_,_,_,_,_,_,_,_,_,_,_,_,_,_,_,_,_,_,_,_,_,_,_,_,_,rfl⟩:=hG.shape
 refine Fe Tryz.func12 [.tmp 4, .tmp 5] rfl<|Ri fun Z=>?_
 have:=hT.size
 refine Bo hs rfl fun bh w1 hs1 hoh eh=>?_
 have:=hs1.size
 have:=hoh.1.lt
 refine Qa rfl<|Nar rfl Z fun Z=>Nar rfl Z fun Z=>Na rfl Z<|cw_seq fun _ hK4=>cw_block ?_
 have hT:=hT.t hs1
 refine cw_loop (fun mm l1 wL=>∃ (G:HM) (xs:List El) (vx:Value) (c:Nat) (cs:List Value) (ML:Mem mb),mm=z.toNat-xs.length∧G.ok∧xs++(srtE G.els).take (z.toNat-xs.length)=(srtE H.els).take z.toNat∧c+HM.drainC (z.toNat-xs.length) G=HM.drainC z.toNat H∧(G.els.length≤H.els.length∧(z.toNat-xs.length=0∨xs.length+G.els.length≤H.els.length))∧l1=[(1, .int .i64 z),(2, .pointer (some ⟨bh,0,none⟩)),(6,vx),(7,wv c)]∧Step Nope M w ML wL∧w1.heap.size≤wL.heap.size∧Own wL ML bh cs 46∧H15 ML G cs∧RowB 29 EncE 2 w1.heap.size wL ML xs vx) (z.toNat) [(1, .int .i64 z),(2, .pointer (some ⟨bh,0,none⟩)),(6, .slice none 0 0),(7,wv 0)] (.cons rfl (.cons rfl (.cons rfl (.cons rfl (.nil _))))) ?_ ?_
 ·exact ⟨H,[],_,0,_,_,rfl,hok,rfl,Nat.zero_add _,⟨Nat.le_refl _, .inr (by simp)⟩,rfl,hT,Nat.le_refl _,hoh,hG,RowB.none⟩
 have hBw:w.heap.size≤w1.heap.size∧bh<w1.heap.size∧w.heap.size≤bh:=⟨by omega,by omega,by omega⟩
 clear hT hG hoh
 rintro mm l1 wL ⟨G,xs,vx,c,cs,ML,rfl,hok,hxs0,hcc,hlen,rfl,hT,hwL,hoh,hG,hxs⟩
 obtain ⟨_,_,_,_,_,_,_,_,_,_,_,_,_,_,_,_,_,_,_,_,_,_,_,_,_,_,_,_,_,_,rfl⟩:=hG.shape
 obtain ⟨ax,cx,rfl⟩:=hxs.slice
 have hxslt:=hxs.lt
 have hxsge:=hxs.ge
 refine cw_seq fun _ hK5=>?_
 rcases Nat.eq_zero_or_pos G.els.length with hg0 | hg0
 ·refine Ri fun Z=>Qc 18 rfl (OD hoh rfl)<|Ca rfl ((r15_size hT.sat hG hok O).mono ?_)
  rintro _ w2 ⟨rfl,Ms,hs2⟩
  have:=hs2.size
  refine Qq rfl (qGF rfl)<|Qm rfl<|as_gskip rfl rfl rfl rfl rfl<|as_gskip rfl rfl rfl rfl rfl<|as_gskip rfl rfl rfl rfl rfl<|as_gskip rfl rfl rfl rfl rfl<|Qq rfl (q_pick_f rfl rfl)<|Nx Z<|cw_false rfl<|cw_exit<|hK4 _ _<|Ri fun Z=>Qm rfl<|Qm rfl<|Qa rfl<|Na rfl Z<|cw_ret ?_
  have hgn:G.els=[]:=List.eq_nil_of_length_eq_zero hg0
  rw [hgn,show srtE []=[] from rfl,List.take_nil,List.append_nil] at hxs0
  rw [HM.drain_nil hgn] at hcc
  have hxs:=hxs.then encE_ok hs2
  have hT:=hT.t hs2
  obtain ⟨Mz,hT2,hle,hrz,_⟩:=hxs.freeze encE_ok hT O
  exact ⟨_,(res_tmp rfl (Rt rfl)),_,Mz,tup_eq (by rw [← hcc]; rfl),hT2,hxs0 ▸ hrz⟩
 ·refine Ri fun Z=>Qc 18 rfl (OD hoh rfl)<|Ca rfl ((r15_size hT.sat hG hok O).mono ?_)
  rintro _ w3 ⟨rfl,Ms,hs3⟩
  have:=hs3.size
  refine Qq rfl (qGT rfl)<|Qm rfl<|as_gh rfl rfl rfl rfl (h_q rfl (q_move rfl) ?_)
  refine as_gh rfl rfl rfl rfl (h_q rfl (ql rfl) ?_)
  refine as_gh rfl rfl rfl rfl (h_q rfl (q_move rfl) ?_)
  refine as_gh rfl rfl rfl rfl (h_q rfl (q_lt rfl rfl) ?_)
  refine Qq rfl (q_pick_t rfl rfl)<|Nx Z ?_
  have hG:=h15_ok.mono _ _ _ _ hs3.le hG
  have hoh:=hoh.t hs3
  have hxs:=hxs.then encE_ok hs3
  have hT:=hT.t hs3
  refine cw_cond rfl (fun hc0=>?_) (fun hc0=>?_)
  ·have hc0:=of_decide_eq_true hc0
   have hne:G.els≠[]:=fun h=>by rw [h] at hg0; exact absurd hg0 (Nat.lt_irrefl 0)
   obtain ⟨x,l,hxl⟩:∃ x l,x::l=srtE G.els:=by
    cases h:srtE G.els with
    | nil=>have:=srtE_length G.els; rw [h,List.length_nil] at this; omega
    | cons x l=>exact ⟨x,l,rfl⟩
   have hp:=HM.pop_p hok hxl
   have hpl:G.pop.els.length+1=G.els.length:=by
    have h1:=srtE_length G.els
    have h2:=srtE_length G.pop.els
    rw [hp.2.2.2] at h2
    rw [← hxl,List.length_cons] at h1
    omega
   have hm:∃ m,z.toNat-xs.length=m+1:=⟨z.toNat-xs.length-1,by omega⟩
   obtain ⟨m,hm⟩:=hm
   refine cw_skip<|hK5 _ _<|cw_block<|Ri fun Z=>Qc 18 rfl (OD hoh rfl)<|Ca rfl ((r15_min hs3.sat hG hne O).mono ?_)
   rintro _ w4 ⟨rfl,Mi,hs4⟩
   have:=hs4.size
   refine Qm rfl<|Qe rfl<|Qe rfl ?_
   have hT:=hT.t hs4
   have:=hT.size
   refine Al (.agg #[(.int .i64 0),(.int .i64 0)]) hs4.sat rfl fun bm w5 hs5 hom em=>?_
   have:=hs5.size
   have:=hom.1.lt
   refine St hs5.sat hom rfl fun w6 hs6 hom=>?_
   have hxs:=hxs.then encE_ok hs4 |>.then encE_ok hs5
   have hxs:=hxs.stepO encE_ok hs6 (fun g hg h=>by have h:g=_:=h; have:=hxslt g hg; have:=hxsge g hg; omega)
   have:=hs6.size
   have hom:=hom.all rfl
   refine Nar rfl Z fun Z=>Qm rfl<|Qc 2 rfl (OD hom rfl)<|as_h rfl (h_buildM (e:=29) (size:=2) (zs:=[(.int .i64 0),(.int .i64 0)]) (cs:=[_,_]) V V V rfl hs6.sat rfl rfl rfl fun bK MK w7 hs7 hrK eK=>?_)
   have:=hs7.size
   have hxs:=hxs.then encE_ok hs7
   refine as_h rfl (h_appB encE_ok (e:=29) (bytes:=16) V hs7.sat hxs (Row.one encE_ok hrK (show EncE _ G.min _ from rfl)) rfl rfl (by have:=hlen; simp only [List.length_singleton]; omega) rfl O fun vxs2 w8 hs8 hxs2 hor8 hfl8=>?_)
   have hT:=hT.t hs5 |>.o hs6 |>.t hs7
   have hT:=hT.trans hs8 (fun k hk h=>by have:=hfl8 _ h; omega)
   obtain ⟨axs2,cxs2,rfl⟩:=hxs2.slice
   have:=hs8.size
   have hxs2lt:=hxs2.lt
   have hxs2ge:=hxs2.ge
   refine Nar rfl Z fun Z=>Qm rfl<|Qm rfl<|Qq rfl (q_addw rfl rfl)<|Nar rfl Z fun Z=>Qm rfl<|Qq rfl (ql rfl)<|Qm rfl<|Qq rfl (q_lt rfl rfl)<|Nx Z ?_
   have hG:=h15_ok.mono _ _ _ _ hs7.le (h15_ok.mono _ _ _ _ hs4.le hG)
   have hoh:=hoh.t hs4 |>.t hs5 |>.u hs6 |>.t hs7 |>.step hs8 (fun h=>by have:=hfl8 _ h; have:=hxslt _ h; omega)
   refine cw_cond rfl (fun hc1=>?_) (fun hc1=>?_)
   ·replace hc1:xs.length+1<z:=by have:=of_decide_eq_true hc1; rw [List.length_append,List.length_singleton] at this; omega
    refine Ri fun Z=>Qc 18 rfl (OD hoh rfl)<|Ca rfl ((r15_pop hs8.sat hG hok hne O).mono ?_)
    rintro _ w9 ⟨pcs,Mp,rfl,hs9,hP⟩
    obtain ⟨_,_,_,_,_,_,_,_,_,_,_,_,_,_,_,_,_,_,_,_,_,_,_,_,_,_,_,_,_,_,rfl⟩:=hP.shape
    have:=hs9.size
    refine Qm rfl<|Qe rfl<|Qe rfl ?_
    have hT:=hT.t hs9
    have:=hT.size
    refine Al (.agg #[(.int .i64 0),(.int .i64 0),(.int .i64 0),(.slice none 0 0),(.slice none 0 0),(.int .i64 0),(.int .i64 0),(.slice none 0 0),(.int .i64 0),(.slice none 0 0),(.bool false),(.int .i64 0),(.int .i64 0),(.slice none 0 0),(.bool false),(.int .i64 0),(.int .i64 0),(.slice none 0 0)]) hs9.sat rfl fun bp w10 hs10 hop ep=>?_
    have:=hs10.size
    have:=hop.1.lt
    refine St hs10.sat hop rfl fun w11 hs11 hop=>?_
    have hxs2:=hxs2.then encE_ok hs9 |>.then encE_ok hs10
    have hxs2:=hxs2.stepO encE_ok hs11 (fun g hg h=>by have h:g=_:=h; have:=hxs2lt g hg; have:=hxs2ge g hg; omega)
    have:=hs11.size
    have hop:=hop.all rfl
    refine Nar rfl Z fun Z=>Qc 18 rfl (OD hop rfl) ?_
    have hoh:=hoh.t hs9 |>.t hs10 |>.u hs11
    refine St hs11.sat hoh rfl fun w12 hs12 hoh=>?_
    have hxs2:=hxs2.stepO encE_ok hs12 (fun g hg h=>by have h:g=_:=h; have:=hxs2lt g hg; have:=hxs2ge g hg; omega)
    have:=hs12.size
    have hoh:=hoh.all rfl
    refine Nx Z<|cw_region fun _ Z=>Qm rfl<|Qm rfl<|Qq rfl (q_addw rfl rfl)<|Qa rfl<|as_nil (Z _ _ ?_)
    have hll:(xs++[G.min]).length=xs.length+1:=by rw [List.length_append,List.length_singleton]
    have hG:=h15_ok.mono _ _ _ _ hs9.le hG
    have hT:=hT.t hs10 |>.o hs11 |>.o hs12
    refine ⟨_,_,?_,(.cons rfl (.cons rfl (.cons rfl (.cons rfl (.nil _))))),G.pop,xs++[G.min],_,_,_,_,rfl,hp.2.1,?_,?_,?_,rfl,hT,by omega,hoh,hP,hxs2⟩
    ·omega
    ·rw [hll,hp.2.2.2,hp.1,← hxs0,hm,← hxl,List.take_succ_cons,List.append_assoc,List.singleton_append,show z.toNat-(xs.length+1)=m by omega]
    ·have h:=HM.drain_more (m:=m) hne O; rw [hm,h] at hcc; rw [← hcc,hll,show z.toNat-(xs.length+1)=m by omega]; omega
    ·omega
   ·replace hc1:¬ xs.length+1<z:=by have:=of_decide_eq_false hc1; rw [List.length_append,List.length_singleton] at this; omega
    refine cw_skip ?_
    have hll:(xs++[G.min]).length=xs.length+1:=by rw [List.length_append,List.length_singleton]
    refine ⟨_,_,?_,(.cons rfl (.cons rfl (.cons rfl (.cons rfl (.nil _))))),G,xs++[G.min],_,_,_,_,rfl,hok,?_,?_,?_,rfl,hT,by omega,hoh,hG,hxs2⟩
    ·omega
    ·rw [hll,hp.1,← hxs0,hm,← hxl,List.take_succ_cons,List.append_assoc,show z.toNat-(xs.length+1)=0 by omega,show m=0 by omega]; simp
    ·have h:=HM.drain_one hne; rw [hm,show m+1=1 by omega,h] at hcc; rw [← hcc,hll,show z.toNat-(xs.length+1)=0 by omega]; simp only [HM.drainC]; omega
    ·omega
  ·have hc0:=of_decide_eq_false hc0
   refine cw_exit<|hK4 _ _<|Ri fun Z=>Qm rfl<|Qm rfl<|Qa rfl<|Na rfl Z<|cw_ret ?_
   rw [show z.toNat-xs.length=0 by omega,List.take_zero,List.append_nil] at hxs0
   rw [show z.toNat-xs.length=0 by omega] at hcc
   obtain ⟨Mz,hT2,hle,hrz,_⟩:=hxs.freeze encE_ok hT O
   exact ⟨_,(res_tmp rfl (Rt rfl)),_,Mz,tup_eq (by rw [← hcc]; rfl),hT2,hxs0 ▸ hrz⟩
end Go.Proofs.YtnnldppehojffaaGreat
/- The library s locks of one goroutine, part 1. -/
namespace Go.Proofs.YtnnldppehojffaaGreat
open Go Go.Eng
variable {mb:Option Nat} {w:World} {M:Mem mb}
theorem bool_load0 {b o:Nat} (hs:Sat M w) (hc:w.cell? ⟨b,o,none⟩=some (.int .u32 0)):
  Dz 78 #[.pointer (some ⟨b,o,none⟩)] w (fun v w'=>v = .bool false∧Step Nope M w M w'):=by
 have hT:=hs.r
 refine Fe Tryz.func78 [.tmp 2] rfl<|Ri fun Z=>Nar rfl Z fun Z=>Qm rfl<|Qq rfl (q_nilp rfl)<|Qf 0 rfl<|as_h rfl (h_extern rfl (run_call_load Tryz.func96 V V V .u32 V hc) ?_)
 refine Qq rfl (q_neF rfl rfl O)<|Na rfl Z<|cw_ret ?_
 exact ⟨_,Rt rfl,rfl,hT⟩
theorem bool_load1 {b o:Nat} (hs:Sat M w) (hc:w.cell? ⟨b,o,none⟩=some (.int .u32 1)):
  Dz 78 #[.pointer (some ⟨b,o,none⟩)] w (fun v w'=>v = .bool true∧Step Nope M w M w'):=by
 have hT:=hs.r
 refine Fe Tryz.func78 [.tmp 2] rfl<|Ri fun Z=>Nar rfl Z fun Z=>Qm rfl<|Qq rfl (q_nilp rfl)<|Qf 0 rfl<|as_h rfl (h_extern rfl (run_call_load Tryz.func96 V V V .u32 V hc) ?_)
 refine Qq rfl (q_neT rfl rfl O)<|Na rfl Z<|cw_ret ?_
 exact ⟨_,Rt rfl,rfl,hT⟩
theorem int_load {b o:Nat} {x:Int} (hs:Sat M w) (hc:w.cell? ⟨b,o,none⟩=some (.int .i32 x)):
  Dz 36 #[.pointer (some ⟨b,o,none⟩)] w (fun v w'=>v = .int .i32 x∧Step Nope M w M w'):=by
 have hT:=hs.r
 refine Fe Tryz.func36 [.tmp 2] rfl<|Ri fun Z=>Nar rfl Z fun Z=>Qm rfl<|Qq rfl (q_nilp rfl)<|Qf 0 rfl<|as_h rfl (h_extern rfl (run_call_load Tryz.func77 V V V .i32 V hc) ?_)
 refine Na rfl Z<|cw_ret ?_
 exact ⟨_,Rt rfl,rfl,hT⟩
theorem int_add {b o T:Nat} {cs:List Value} (hs:Sat M w) (ho:Own w M b cs T) (hc:cs[o]? = some (.int .i32 0)):
  Dz 80 #[.pointer (some ⟨b,o,none⟩), .int .i32 1] w (fun _ w'=>Step (Just b) M w M w'∧Own w' M b (cs.set o (.int .i32 1)) T):=by
 have hT:=Step.refl (Just b) hs
 refine Fe Tryz.func80 [.tmp 4] rfl<|Ri fun Z=>Nar rfl Z fun Z=>Qm rfl<|Qq rfl (q_nilp rfl)<|Qf 0 rfl<|Qm rfl<|as_h rfl (h_externO hs ho rfl (run_call_add Tryz.func100 V V V .i32 V (ho.at hc) (ho.1.free _) (s:=1) rfl) fun w1 hs1 ho1=>?_)
 clear ho; have ho:=ho1; clear ho1
 refine Na rfl Z<|cw_ret ?_
 have hT:=hT.also hs1
 exact ⟨_,Rt rfl,hT,ho⟩
theorem lock_in {b o T:Nat} {cs:List Value} (hs:Sat M w) (ho:Own w M b cs T) (hc:cs[o]? = some (.int .i32 0)):
  Dz 107 #[.pointer (some ⟨b,o,none⟩)] w (fun _ w'=>Step (Just b) M w M w'∧Own w' M b (cs.set o (.int .i32 1)) T):=by
 have hT:=Step.refl (Just b) hs
 refine Fe Tryz.func107 [] rfl<|Ri fun Z=>as_h rfl (h_extern rfl (run_call_mark0 Tryz.func112 V V V .disable V _) ?_)
 refine Nx Z<|cw_seq fun _ hK2=>Ri fun Z=>Qm rfl<|Qq rfl (q_nilp rfl)<|Qf 0 rfl<|as_h rfl (h_externO hs ho rfl (run_call_cas_hit Tryz.func113 V V V .i32 V (ho.at hc) (ho.1.free _)) fun w2 hs2 ho2=>?_)
 clear ho; have ho:=ho2; clear ho2
 refine Nx Z<|cw_true rfl<|cw_seq fun _ hK4=>cw_true rfl<|Ri fun Z=>as_h rfl (h_extern rfl (run_call_mark0 Tryz.func114 V V V .enable V _) ?_)
 refine Nx Z<|cw_region fun _ Z=>?_
 have hlt:o<cs.length:=(List.getElem?_eq_some_iff.1 hc).1
 have hcc:(cs.set o (.int .i32 1))[o]? = some (.int .i32 1):=List.getElem?_set_self hlt
 refine Qm rfl<|Qq rfl (q_unsafe (t:=100) Tryz.underlying232 Tryz.underlying235 V rfl (ho.at hcc))<|as_h rfl (h_extern rfl (run_call_marked Tryz.func115 V V V .acquire V _ _) ?_)
 refine as_nil (Z _ _ ?_)
 refine hK4 _ _<|cw_ret ?_
 have hT:=hT.also hs2
 exact ⟨_,res_nil,hT,ho⟩
theorem lock {b o T:Nat} {cs:List Value} (hs:Sat M w) (ho:Own w M b cs T) (hc:cs[o]? = some (.int .i32 0)):
  Dz 97 #[.pointer (some ⟨b,o,none⟩)] w (fun _ w'=>Step (Just b) M w M w'∧Own w' M b (cs.set o (.int .i32 1)) T):=by
 have hT:=Step.refl (Just b) hs
 refine Fe Tryz.func97 [] rfl<|cw_region fun _ Z=>Qm rfl<|Qq rfl (q_nilp rfl)<|Qf 0 rfl<|Ca rfl ((lock_in hs ho hc).mono ?_)
 rintro _ w1 ⟨hs1,ho1⟩
 clear ho; have ho:=ho1; clear ho1
 refine as_nil (Z _ _ ?_)
 have hT:=hT.also hs1
 exact ⟨_,res_nil,hT,ho⟩
theorem unlock_in {b o T:Nat} {cs:List Value} (hs:Sat M w) (ho:Own w M b cs T) (hc:cs[o]? = some (.int .i32 1)):
  Dz 108 #[.pointer (some ⟨b,o,none⟩)] w (fun _ w'=>Step (Just b) M w M w'∧Own w' M b (cs.set o (.int .i32 0)) T):=by
 have hT:=Step.refl (Just b) hs
 refine Fe Tryz.func108 [] rfl<|cw_seq fun _ hK1=>cw_true rfl<|Ri fun Z=>Qm rfl<|Qq rfl (q_nilp rfl)<|Qf 0 rfl<|Q1 rfl (ho.at hc)<|Nr Z fun Z=>Qm rfl<|Qq rfl (q_unsafe (t:=100) Tryz.underlying232 Tryz.underlying235 V rfl (ho.at hc))<|as_h rfl (h_extern rfl (run_call_marked Tryz.func117 V V V .releaseMerge V _ _) ?_)
 refine Nx Z<|cw_region fun _ Z=>as_h rfl (h_extern rfl (run_call_mark0 Tryz.func112 V V V .disable V _) ?_)
 refine as_nil (Z _ _ ?_)
 refine hK1 _ _<|Ri fun Z=>Qm rfl<|Qq rfl (q_nilp rfl)<|Qf 0 rfl<|as_h rfl (h_externO hs ho rfl (run_call_add Tryz.func100 V V V .i32 V (ho.at hc) (ho.1.free _) (s:=0) rfl) fun w3 hs3 ho3=>?_)
 clear ho; have ho:=ho3; clear ho3
 refine Na rfl Z<|cw_seq fun _ hK6=>Ri fun Z=>Qm rfl<|Qq rfl (q_neF rfl rfl O)<|Nx Z<|cw_false rfl<|cw_skip<|hK6 _ _<|cw_region fun _ Z=>as_h rfl (h_extern rfl (run_call_mark0 Tryz.func114 V V V .enable V _) ?_)
 refine as_nil (Z _ _ ?_)
 have hT:=hT.also hs3
 exact ⟨_,res_nil,hT,ho⟩
theorem unlock {b o T:Nat} {cs:List Value} (hs:Sat M w) (ho:Own w M b cs T) (hc:cs[o]? = some (.int .i32 1)):
  DoesU Tryz.prog 98 #[.pointer (some ⟨b,o,none⟩)] w (fun _ w'=>Step (Just b) M w M w'∧Own w' M b (cs.set o (.int .i32 0)) T):=by
 have hT:=Step.refl (Just b) hs
 refine fn_enterU Tryz.func98 rfl (rs:=[]) rfl rfl rfl rfl<|cw_region fun _ Z=>Qm rfl<|Qq rfl (q_nilp rfl)<|Qf 0 rfl<|Ca rfl ((unlock_in hs ho hc).mono ?_)
 rintro _ w1 ⟨hs1,ho1⟩
 clear ho; have ho:=ho1; clear ho1
 refine as_nil (Z _ _ ?_)
 have hT:=hT.also hs1
 exact ⟨_,res_nil,hT,ho⟩
theorem b32 (hs:Sat M w):
  Dz 110 #[.bool true] w (fun v w'=>v = .int .u32 1∧Step Nope M w M w'):=by
 have hT:=hs.r
 refine Fe Tryz.func110 [.tmp 2] rfl<|Ri fun Z=>Na rfl Z<|cw_seq fun _ hK2=>Ri fun Z=>Qm rfl<|Nx Z<|cw_true rfl<|Ri fun Z=>Na rfl Z<|cw_ret ?_
 exact ⟨_,Rt rfl,rfl,hT⟩
theorem bool_store {b o T:Nat} {cs:List Value} (hs:Sat M w) (ho:Own w M b cs T) {u:Value} (hc:cs[o]? = some u):
  DoesU Tryz.prog 99 #[.pointer (some ⟨b,o,none⟩), .bool true] w (fun _ w'=>Step (Just b) M w M w'∧Own w' M b (cs.set o (.int .u32 1)) T):=by
 have hT:=Step.refl (Just b) hs
 refine fn_enterU Tryz.func99 rfl (rs:=[]) rfl rfl rfl rfl<|cw_drawn V V V rfl rfl fun K1 hK1=>?_
 have hs1:=Step.drew hs
 refine Gm 0 1 rfl<|Gq 1 3 rfl (fun _=>q_nilp rfl)<|Gf 2 7 0 rfl<|Gm 3 15 rfl<|Gh 4 31 rfl rfl (h_call V rfl ?_)
 refine (b32 hs1.sat).mono ?_
 rintro _ w2 ⟨rfl,hs2⟩
 refine ⟨trivial,?_⟩
 have ho:=ho.t hs1 |>.t hs2
 refine Gh 5 63 rfl rfl (h_externO hs2.sat ho rfl (run_call_store Tryz.func109 V V V V (ho.at hc) (ho.1.free _)) fun w3 hs3 ho3=>?_)
 clear ho; have ho:=ho3; clear ho3
 refine ⟨trivial,?_⟩
 refine Dd V (hK1 _ _ ?_)
 have hT:=hT.t hs1 |>.t hs2 |>.also hs3
 exact ⟨_,res_nil,hT,ho⟩
end Go.Proofs.YtnnldppehojffaaGreat
/- Heaps without their least element, part 2. -/
namespace Go.Proofs.YtnnldppehojffaaGreat
open Go Go.Eng
variable {mb:Option Nat} {w:World} {M:Mem mb}
theorem se_pop {ts:List (RT El)} {x:El} {bs:List El} {ks:List (RT El)} {q:Option Addr} (hs:Sat M w) (h:FRep 266 287 2 EncE M ts q) (ht:ts[leastN ltE (ts.map RT.root) (ts.length-1)]? = some (.node x bs ks)) (hz:RT.sizes ts≤1000000000):
  Dz 214 #[.agg #[.pointer q],mval mb] w (fun v w'=>∃ q M',v = .tuple #[.agg #[.pointer q], .bool true]∧StepC Nope (spopC ltE ts (.node x bs ks)) M w M' w'∧FRep 266 287 2 EncE M' (spop ltE ts (.node x bs ks)) q):=by
 have hT:=hs.r
 obtain ⟨l,hc,hk,hll,hlz⟩:=h.len
 obtain ⟨kq,hkq,hkr⟩:=hk.get ht
 have hpos:0<ts.length:=Nat.lt_of_le_of_lt (Nat.zero_le _) (List.getElem?_eq_some_iff.1 ht).1
 have hbl:=leastN_le ltE (ts.map RT.root) (ts.length-1)
 have hszo:=sizes_out ht
 have hksl:=RT.sizes_length ks
 simp only [RT.size] at hszo
 refine Fe Tryz.func214 [.cell 4 162, .tmp 5] rfl<|Ri fun Z=>Bm hs rfl fun b1 M1 w1 hs1 hb1 e1=>?_
 have hk:=hk.mono' EncE.mono hs1.le
 have hkr:=hkr.mono' EncE.mono hs1.le
 have:=hs1.size
 have hT:=hT.t hs1
 have:=hT.size
 refine Al (.agg #[(.pointer none)]) hs1.sat rfl fun br w2 hs2 hor er=>?_
 have:=hs2.size
 have:=hor.1.lt
 refine Nar rfl Z fun Z=>Qf 0 rfl<|Qc 1 rfl (BD hs2 hb1 rfl) ?_
 have hc:=hc.mono hs1.le
 refine Ca rfl ((ce_all hs2.sat hc O).mono ?_)
 rintro av w3 ⟨Ma,hs3,hba,hfa⟩
 clear hc
 have hk:=hk.mono' EncE.mono hs3.le
 have hkr:=hkr.mono' EncE.mono hs3.le
 have:=hs3.size
 rw [hll] at hba
 obtain ⟨ag,ac,rfl⟩:=hba.head0 hpos
 have hfa0:=hfa ag rfl
 replace hfa:w.heap.size≤ag:=Nat.le_trans O hfa0
 refine Na rfl Z<|cw_seq fun _ hK3=>Ri fun Z=>Qm rfl<|Qq rfl (ql rfl)<|Qq rfl (qEF rfl)<|Nx Z<|cw_false rfl<|cw_skip<|hK3 _ _<|Ri fun Z=>Qm rfl<|Qm rfl<|Ca rfl ((se_least hs3.sat hba.rds hk O).mono ?_)
 rintro _ w4 ⟨rfl,hs4⟩
 have hk:=hk.mono' EncE.mono hs4.le
 have hkr:=hkr.mono' EncE.mono hs4.le
 have:=hs4.size
 refine Nar rfl Z fun Z=>Qm rfl<|Qm rfl<|Qq rfl (qi 264 1 rfl) ?_
 have hba:=hba.t hs4
 refine Q1 rfl (Buf.cell hba (u:= .pointer kq) (j:=((leastN ltE (ts.map RT.root) (ts.length-1):Nat):Int).toNat*1) (by rw [show ((leastN ltE (ts.map RT.root) (ts.length-1):Nat):Int).toNat*1=leastN ltE (ts.map RT.root) (ts.length-1) from by omega]; simp [ptrs,hkq]))<|Nar rfl Z fun Z=>Qm rfl<|Ca rfl ?_
 have hblt:=hba.lt ag rfl
 refine (te_kids hs4.sat hkr O).mono ?_
 rintro _ w5 ⟨ka_,kc_,Mk,kas,rfl,hs5,hkb,hkk,hkf⟩
 have hk:=hk.mono' EncE.mono hs5.le
 have hkr:=hkr.mono' EncE.mono hs5.le
 have:=hs5.size
 refine Nar rfl Z fun Z=>Qm rfl<|Ca rfl ((rve hs5.sat hkb O).mono ?_)
 rintro _ w6 ⟨hs6,hkb2⟩
 have hk:=hk.mono' EncE.mono hs6.le
 have hkr:=hkr.mono' EncE.mono hs6.le
 have hkk:=hkk.mono' EncE.mono hs6.le
 clear hkb; have hkb:=hkb2; clear hkb2
 have hT:=hT.t hs2 |>.t hs3 |>.t hs4 |>.t hs5
 have hT:=hT.trans hs6 (fun k hk h=>by have:=hkf k h; omega)
 have:=hs6.size
 refine Nr Z fun Z=>Qm rfl<|Qm rfl<|Qm rfl<|Qm rfl<|Qq rfl (qA rfl) ?_
 have hba:=hba.t hs5 |>.step hs6 (fun g2 hg h=>by have h2:ag=g2:=Option.some.inj hg; have:=hkf _ h; omega)
 refine Ca rfl ((dle (i:=leastN ltE (ts.map RT.root) (ts.length-1)) hs6.sat hba O O).mono ?_)
 rintro _ w7 ⟨rfl,hs7,hba2⟩
 have hk:=hk.mono' EncE.mono hs7.le
 have hkr:=hkr.mono' EncE.mono hs7.le
 have hkk:=hkk.mono' EncE.mono hs7.le
 clear hba; have hba:Buf _ _ _ 1 _ _ _:=hba2; clear hba2
 have hT:=hT.trans hs7 (fun k hk h=>by have h:k=ag:=h; omega)
 have:=hs7.size
 refine Ca rfl ?_
 have hel:(ts.eraseIdx (leastN ltE (ts.map RT.root) (ts.length-1))).length=ts.length-1:=List.length_eraseIdx_of_lt O
 refine (se_level (ts:=ts.eraseIdx (leastN ltE (ts.map RT.root) (ts.length-1))) hs7.sat ⟨some ⟨ag,0,none⟩,ac,l.eraseIdx (leastN ltE (ts.map RT.root) (ts.length-1)),by rw [hel],by rw [hel]; exact hba.rds,treps_out _ hk⟩ O).mono ?_
 rintro lvv w8 ⟨Ml,hs8,hlv⟩
 have hkr:=hkr.mono' EncE.mono hs8.le
 have hkk:=hkk.mono' EncE.mono hs8.le
 have:=hs8.size
 refine Nar rfl Z fun Z=>Qm rfl<|Qm rfl<|Qm rfl ?_
 have hkb:=hkb.step hs7 (fun g2 hg h=>by have h:g2=ag:=h; have:=hkf _ hg; omega) |>.t hs8
 refine Ca rfl ((se_rmeld (a:=ks.reverse) hs8.sat ⟨ka_,kc_,kas.reverse,by rw [List.length_reverse],by rw [List.length_reverse]; exact hkb.rds,treps_rev hkk⟩ hlv (by rw [sizes_rev,slevel_size]; omega)).mono ?_)
 rintro _ w9 ⟨Mm,hs9,⟨ra,rc,rl,rfl,hrr,hrt⟩⟩
 have hmz:=bmeld_size ltE ks.reverse (slevel ltE (ts.eraseIdx (leastN ltE (ts.map RT.root) (ts.length-1))))
 rw [sizes_rev,slevel_size] at hmz
 have hmzl:=RT.sizes_length (bmeld ltE ks.reverse (slevel ltE (ts.eraseIdx (leastN ltE (ts.map RT.root) (ts.length-1)))))
 have hkr:=hkr.mono' EncE.mono hs9.le
 have:=hs9.size
 refine Ca rfl ((ce_ofn (l:=rl) hs9.sat hrt.length hrr O).mono ?_)
 rintro _ w10 ⟨qc0,Mc0,rfl,hs10,hco0⟩
 have hkr:=hkr.mono' EncE.mono hs10.le
 have hrt:=hrt.mono' EncE.mono hs10.le
 have:=hs10.size
 refine Qq rfl (q_build (zs:=[(.pointer none)]) (places:=[(0,1)]) (cs:=[_]) V V rfl rfl) ?_
 have hT:=hT.t hs8 |>.t hs9 |>.t hs10
 have:=hT.size
 refine Al (.agg #[(.pointer none)]) hs10.sat rfl fun bout w11 hs11 hoout eout=>?_
 have:=hs11.size
 have:=hoout.1.lt
 refine St hs11.sat hoout rfl fun w12 hs12 hoout=>?_
 have:=hs12.size
 refine Nx Z<|cw_seq fun _ hK11=>Ri fun Z=>Qm rfl<|Ca rfl ?_
 have hrd0:FRep 266 287 2 EncE Mc0 (bmeld ltE ks.reverse (slevel ltE (ts.eraseIdx (leastN ltE (ts.map RT.root) (ts.length-1))))) qc0:=⟨_,hco0,hrt⟩
 refine (te_beside hs12.sat hkr O).mono ?_
 rintro _ w13 ⟨sa,sc,Mb,bcs2,rfl,hs13,hbb,hbl,hbf⟩
 have hrd0:=hrd0.mono' EncE.mono hs13.le
 have:=hs13.size
 refine Qq rfl (ql rfl)<|Qm rfl<|Nx Z<|cw_block ?_
 have hor:=hor.t hs3 |>.t hs4 |>.t hs5 |>.step hs6 (fun h=>by have:=hkf _ h; omega) |>.step hs7 (fun h=>by have h:_=ag:=h; omega) |>.t hs8 |>.t hs9 |>.t hs10 |>.t hs11 |>.u hs12 |>.t hs13
 have hT:=hT.t hs11 |>.o hs12 |>.t hs13
 have hoout:=hoout.t hs13
 refine cw_loop (fun mm l1 w1=>∃ (i:Nat) (q:Option Addr) (M1:Mem mb),mm=bs.length-i∧i≤bs.length∧l1=[(1,mval mb),(4, .pointer (some ⟨br,0,none⟩)),(11, .pointer (some ⟨bout,0,none⟩)),(46, .slice sa bs.length sc),(47, .int .i64 (bs.length:Nat)),(48, .int .i64 i)]∧StepC Nope ((ts.length-1+slevelC ltE (ts.eraseIdx (leastN ltE (ts.map RT.root) (ts.length-1)))+bmeldC ltE ks.reverse (slevel ltE (ts.eraseIdx (leastN ltE (ts.map RT.root) (ts.length-1)))))+sinsertsC ltE (bs.take i) (bmeld ltE ks.reverse (slevel ltE (ts.eraseIdx (leastN ltE (ts.map RT.root) (ts.length-1)))))) M w M1 w1∧FRep 266 287 2 EncE M1 ((bs.take i).foldl (fun h x=>sinsert ltE x h) (bmeld ltE ks.reverse (slevel ltE (ts.eraseIdx (leastN ltE (ts.map RT.root) (ts.length-1)))))) q∧Buf w1 M1 29 2 (.slice sa bs.length sc) bs.length bcs2∧EncL EncE 2 M1 bs bcs2∧Own w1 M1 bout [.pointer q] 162∧Own w1 M1 br [.pointer none] 162) (bs.length) [(1,mval mb),(4, .pointer (some ⟨br,0,none⟩)),(11, .pointer (some ⟨bout,0,none⟩)),(46, .slice sa bs.length sc),(47, .int .i64 (bs.length:Nat)),(48, .int .i64 (0:Nat))] (.cons rfl (.cons rfl (.cons rfl (.cons rfl (.cons rfl (.cons rfl (.nil _))))))) ?_ ?_
 ·exact ⟨0,_,_,rfl,Nat.zero_le _,rfl,hT.to (by simp only [List.take_zero,sinsertsC]; omega),hrd0,hbb,hbl,hoout,hor⟩
 have hbrw:w.heap.size≤br∧w.heap.size≤bout∧bout≠br∧br<w13.heap.size∧bout<w13.heap.size:=by omega
 have hbf2:∀ g,(Value.slice sa bs.length sc).ownBlock=some g→g≠br∧g≠bout:=fun g hg=>by have:=hbf g hg; omega
 clear hT hrd0 hbb hbl hoout hor
 rintro mm l1 w1 ⟨i,q,M1,rfl,hi,rfl,hT,hrd,hbb,hbl,hoout,hor⟩
 have hszi:=sins_size (lt:=ltE) (bs.take i) (bmeld ltE ks.reverse (slevel ltE (ts.eraseIdx (leastN ltE (ts.map RT.root) (ts.length-1)))))
 rw [List.length_take] at hszi
 have:=hoout.1.lt
 have:=hor.1.lt
 refine Ri fun Z=>Qq rfl (q_lt rfl rfl)<|Nx Z<|cw_seq fun _ hK14=>cw_cond rfl (fun hc1=>?_) (fun hc1=>?_)
 ·have hlt:i<bs.length:=by have:=of_decide_eq_true hc1; omega
  obtain ⟨y,hy⟩:∃ y,bs[i]? = some y:=⟨bs[i],by simp⟩
  obtain ⟨yc,hyl,hyx,hyc⟩:=hbl.get hy
  obtain ⟨g,o,rfl⟩:=hbb.rd.there O
  obtain rfl:yc=elc y:=hyx
  have hblt:=hbb.lt
  refine cw_skip<|hK14 _ _<|cw_seq fun _ hK15=>cw_block<|Ri fun Z=>Qq rfl (qi 29 2 rfl)<|Qc 2 rfl ⟨rfl,fun j u hj=>by rw [Nat.add_assoc]; exact Buf.cell hbb (hyc j u hj)⟩ ?_
  have:=hT.size
  refine Al (.agg #[(.int .i64 0),(.int .i64 0)]) hT.sat rfl fun byy w14 hs14 hoyy eyy=>?_
  have:=hs14.size
  have:=hoyy.1.lt
  refine St hs14.sat hoyy rfl fun w15 hs15 hoyy=>?_
  have:=hs15.size
  refine Nx Z<|cw_region fun _ Z=>?_
  have hoout:=hoout.t hs14 |>.u hs15
  refine Qc 1 rfl (OD hoout rfl)<|Qm rfl<|Qc 2 rfl (OD hoyy rfl)<|Ca rfl ((se_insert (x:=y) hs15.sat hrd O).mono ?_)
  rintro _ w16 ⟨qi,Mi,rfl,hs16,hin⟩
  have hrd:=hrd.mono' EncE.mono hs16.le
  have:=hs16.size
  have hoout:=hoout.t hs16
  refine St hs16.sat hoout rfl fun w17 hs17 hoout=>?_
  have:=hs17.size
  refine as_nil (Z _ _ ?_)
  refine hK15 _ _<|cw_region fun _ Z=>Qq rfl (qA rfl)<|Qm rfl<|as_nil (Z _ _ ?_)
  have hbb:=hbb.t hs14 |>.step hs15 (fun g2 hg h=>by have h:g2=byy:=h; have:=hblt _ hg; omega) |>.t hs16 |>.step hs17 (fun g2 hg h=>(hbf2 g2 hg).2 h)
  have hor:=hor.t hs14 |>.u hs15 |>.t hs16 |>.step hs17 (fun h=>by have h:br=bout:=h; omega)
  have hT:=hT.t hs14 |>.o hs15 |>.t hs16 |>.o hs17
  have hbl:=hbl.mono EncE.mono hs16.le
  refine ⟨_,_,?_,(.cons rfl (.cons rfl (.cons rfl (.cons rfl (.cons rfl (.cons rfl (.nil _))))))),i+1,_,Mi,rfl,by omega,rfl,hT.to (by rw [List.take_add_one,hy]; simp only [Option.toList]; rw [sinsertsC_snoc]; omega),?_,hbb,hbl,hoout,hor⟩
  ·omega
  ·rw [List.take_add_one,hy,List.foldl_append]; exact hin
 ·have hge:i=bs.length:=by have:=of_decide_eq_false hc1; omega
  refine cw_exit<|hK11 _ _<|Ri fun Z=>Qc 1 rfl (OD hoout rfl)<|St hT.sat hor rfl fun w18 hs18 hor=>?_
  have:=hs18.size
  refine Na rfl Z<|cw_ret ?_
  subst hge
  have hT:=hT.o hs18
  rw [List.take_length] at hrd hT
  exact ⟨_,(Rc 1 rfl (OD hor rfl) (Rt rfl)),_,_,rfl,hT.to (by unfold spopC; simp only [RT.kids,RT.beside]; omega),hrd⟩
end Go.Proofs.YtnnldppehojffaaGreat
/- Heaps without their least element, part 3. -/
namespace Go.Proofs.YtnnldppehojffaaGreat
open Go Go.Eng
variable {mb:Option Nat} {w:World} {M:Mem mb}
theorem sh_pop {ts:List (RT Bt)} {x:Bt} {bs:List Bt} {ks:List (RT Bt)} {q:Option Addr} (hs:Sat M w) (h:FRep 381 383 1 EncB M ts q) (ht:ts[leastN ltB (ts.map RT.root) (ts.length-1)]? = some (.node x bs ks)) (hz:RT.sizes ts≤1000000000):
  Dz 255 #[.agg #[.pointer q],mval mb] w (fun v w'=>∃ q M',v = .tuple #[.agg #[.pointer q], .bool true]∧StepC Nope (spopC ltB ts (.node x bs ks)) M w M' w'∧FRep 381 383 1 EncB M' (spop ltB ts (.node x bs ks)) q):=by
 have hT:=hs.r
 obtain ⟨l,hc,hk,hll,hlz⟩:=h.len
 obtain ⟨kq,hkq,hkr⟩:=hk.get ht
 have hpos:0<ts.length:=Nat.lt_of_le_of_lt (Nat.zero_le _) (List.getElem?_eq_some_iff.1 ht).1
 have hbl:=leastN_le ltB (ts.map RT.root) (ts.length-1)
 have hszo:=sizes_out ht
 have hksl:=RT.sizes_length ks
 simp only [RT.size] at hszo
 refine Fe Tryz.func255 [.cell 4 345, .tmp 5] rfl<|Ri fun Z=>Bm hs rfl fun b1 M1 w1 hs1 hb1 e1=>?_
 have hk:=hk.mono' EncB.mono hs1.le
 have hkr:=hkr.mono' EncB.mono hs1.le
 have:=hs1.size
 have hT:=hT.t hs1
 have:=hT.size
 refine Al (.agg #[(.pointer none)]) hs1.sat rfl fun br w2 hs2 hor er=>?_
 have:=hs2.size
 have:=hor.1.lt
 refine Nar rfl Z fun Z=>Qf 0 rfl<|Qc 1 rfl (BD hs2 hb1 rfl) ?_
 have hc:=hc.mono hs1.le
 refine Ca rfl ((ch_all hs2.sat hc O).mono ?_)
 rintro av w3 ⟨Ma,hs3,hba,hfa⟩
 clear hc
 have hk:=hk.mono' EncB.mono hs3.le
 have hkr:=hkr.mono' EncB.mono hs3.le
 have:=hs3.size
 rw [hll] at hba
 obtain ⟨ag,ac,rfl⟩:=hba.head0 hpos
 have hfa0:=hfa ag rfl
 replace hfa:w.heap.size≤ag:=Nat.le_trans O hfa0
 refine Na rfl Z<|cw_seq fun _ hK3=>Ri fun Z=>Qm rfl<|Qq rfl (ql rfl)<|Qq rfl (qEF rfl)<|Nx Z<|cw_false rfl<|cw_skip<|hK3 _ _<|Ri fun Z=>Qm rfl<|Qm rfl<|Ca rfl ((sh_least hs3.sat hba.rds hk O).mono ?_)
 rintro _ w4 ⟨rfl,hs4⟩
 have hk:=hk.mono' EncB.mono hs4.le
 have hkr:=hkr.mono' EncB.mono hs4.le
 have:=hs4.size
 refine Nar rfl Z fun Z=>Qm rfl<|Qm rfl<|Qq rfl (qi 360 1 rfl) ?_
 have hba:=hba.t hs4
 refine Q1 rfl (Buf.cell hba (u:= .pointer kq) (j:=((leastN ltB (ts.map RT.root) (ts.length-1):Nat):Int).toNat*1) (by rw [show ((leastN ltB (ts.map RT.root) (ts.length-1):Nat):Int).toNat*1=leastN ltB (ts.map RT.root) (ts.length-1) from by omega]; simp [ptrs,hkq]))<|Nar rfl Z fun Z=>Qm rfl<|Ca rfl ?_
 have hblt:=hba.lt ag rfl
 refine (th_kids hs4.sat hkr O).mono ?_
 rintro _ w5 ⟨ka_,kc_,Mk,kas,rfl,hs5,hkb,hkk,hkf⟩
 have hk:=hk.mono' EncB.mono hs5.le
 have hkr:=hkr.mono' EncB.mono hs5.le
 have:=hs5.size
 refine Nar rfl Z fun Z=>Qm rfl<|Ca rfl ((rvh hs5.sat hkb O).mono ?_)
 rintro _ w6 ⟨hs6,hkb2⟩
 have hk:=hk.mono' EncB.mono hs6.le
 have hkr:=hkr.mono' EncB.mono hs6.le
 have hkk:=hkk.mono' EncB.mono hs6.le
 clear hkb; have hkb:=hkb2; clear hkb2
 have hT:=hT.t hs2 |>.t hs3 |>.t hs4 |>.t hs5
 have hT:=hT.trans hs6 (fun k hk h=>by have:=hkf k h; omega)
 have:=hs6.size
 refine Nr Z fun Z=>Qm rfl<|Qm rfl<|Qm rfl<|Qm rfl<|Qq rfl (qA rfl) ?_
 have hba:=hba.t hs5 |>.step hs6 (fun g2 hg h=>by have h2:ag=g2:=Option.some.inj hg; have:=hkf _ h; omega)
 refine Ca rfl ((dlh (i:=leastN ltB (ts.map RT.root) (ts.length-1)) hs6.sat hba O O).mono ?_)
 rintro _ w7 ⟨rfl,hs7,hba2⟩
 have hk:=hk.mono' EncB.mono hs7.le
 have hkr:=hkr.mono' EncB.mono hs7.le
 have hkk:=hkk.mono' EncB.mono hs7.le
 clear hba; have hba:Buf _ _ _ 1 _ _ _:=hba2; clear hba2
 have hT:=hT.trans hs7 (fun k hk h=>by have h:k=ag:=h; omega)
 have:=hs7.size
 refine Ca rfl ?_
 have hel:(ts.eraseIdx (leastN ltB (ts.map RT.root) (ts.length-1))).length=ts.length-1:=List.length_eraseIdx_of_lt O
 refine (sh_level (ts:=ts.eraseIdx (leastN ltB (ts.map RT.root) (ts.length-1))) hs7.sat ⟨some ⟨ag,0,none⟩,ac,l.eraseIdx (leastN ltB (ts.map RT.root) (ts.length-1)),by rw [hel],by rw [hel]; exact hba.rds,treps_out _ hk⟩ O).mono ?_
 rintro lvv w8 ⟨Ml,hs8,hlv⟩
 have hkr:=hkr.mono' EncB.mono hs8.le
 have hkk:=hkk.mono' EncB.mono hs8.le
 have:=hs8.size
 refine Nar rfl Z fun Z=>Qm rfl<|Qm rfl<|Qm rfl ?_
 have hkb:=hkb.step hs7 (fun g2 hg h=>by have h:g2=ag:=h; have:=hkf _ hg; omega) |>.t hs8
 refine Ca rfl ((sh_rmeld (a:=ks.reverse) hs8.sat ⟨ka_,kc_,kas.reverse,by rw [List.length_reverse],by rw [List.length_reverse]; exact hkb.rds,treps_rev hkk⟩ hlv (by rw [sizes_rev,slevel_size]; omega)).mono ?_)
 rintro _ w9 ⟨Mm,hs9,⟨ra,rc,rl,rfl,hrr,hrt⟩⟩
 have hmz:=bmeld_size ltB ks.reverse (slevel ltB (ts.eraseIdx (leastN ltB (ts.map RT.root) (ts.length-1))))
 rw [sizes_rev,slevel_size] at hmz
 have hmzl:=RT.sizes_length (bmeld ltB ks.reverse (slevel ltB (ts.eraseIdx (leastN ltB (ts.map RT.root) (ts.length-1)))))
 have hkr:=hkr.mono' EncB.mono hs9.le
 have:=hs9.size
 refine Ca rfl ((ch_ofn (l:=rl) hs9.sat hrt.length hrr O).mono ?_)
 rintro _ w10 ⟨qc0,Mc0,rfl,hs10,hco0⟩
 have hkr:=hkr.mono' EncB.mono hs10.le
 have hrt:=hrt.mono' EncB.mono hs10.le
 have:=hs10.size
 refine Qq rfl (q_build (zs:=[(.pointer none)]) (places:=[(0,1)]) (cs:=[_]) V V rfl rfl) ?_
 have hT:=hT.t hs8 |>.t hs9 |>.t hs10
 have:=hT.size
 refine Al (.agg #[(.pointer none)]) hs10.sat rfl fun bout w11 hs11 hoout eout=>?_
 have:=hs11.size
 have:=hoout.1.lt
 refine St hs11.sat hoout rfl fun w12 hs12 hoout=>?_
 have:=hs12.size
 refine Nx Z<|cw_seq fun _ hK11=>Ri fun Z=>Qm rfl<|Ca rfl ?_
 have hrd0:FRep 381 383 1 EncB Mc0 (bmeld ltB ks.reverse (slevel ltB (ts.eraseIdx (leastN ltB (ts.map RT.root) (ts.length-1))))) qc0:=⟨_,hco0,hrt⟩
 refine (th_beside hs12.sat hkr O).mono ?_
 rintro _ w13 ⟨sa,sc,Mb,bcs2,rfl,hs13,hbb,hbl,hbf⟩
 have hrd0:=hrd0.mono' EncB.mono hs13.le
 have:=hs13.size
 refine Qq rfl (ql rfl)<|Qm rfl<|Nx Z<|cw_block ?_
 have hor:=hor.t hs3 |>.t hs4 |>.t hs5 |>.step hs6 (fun h=>by have:=hkf _ h; omega) |>.step hs7 (fun h=>by have h:_=ag:=h; omega) |>.t hs8 |>.t hs9 |>.t hs10 |>.t hs11 |>.u hs12 |>.t hs13
 have hT:=hT.t hs11 |>.o hs12 |>.t hs13
 have hoout:=hoout.t hs13
 refine cw_loop (fun mm l1 w1=>∃ (i:Nat) (q:Option Addr) (M1:Mem mb),mm=bs.length-i∧i≤bs.length∧l1=[(1,mval mb),(4, .pointer (some ⟨br,0,none⟩)),(11, .pointer (some ⟨bout,0,none⟩)),(46, .slice sa bs.length sc),(47, .int .i64 (bs.length:Nat)),(48, .int .i64 i)]∧StepC Nope ((ts.length-1+slevelC ltB (ts.eraseIdx (leastN ltB (ts.map RT.root) (ts.length-1)))+bmeldC ltB ks.reverse (slevel ltB (ts.eraseIdx (leastN ltB (ts.map RT.root) (ts.length-1)))))+sinsertsC ltB (bs.take i) (bmeld ltB ks.reverse (slevel ltB (ts.eraseIdx (leastN ltB (ts.map RT.root) (ts.length-1)))))) M w M1 w1∧FRep 381 383 1 EncB M1 ((bs.take i).foldl (fun h x=>sinsert ltB x h) (bmeld ltB ks.reverse (slevel ltB (ts.eraseIdx (leastN ltB (ts.map RT.root) (ts.length-1)))))) q∧Buf w1 M1 172 1 (.slice sa bs.length sc) bs.length bcs2∧EncL EncB 1 M1 bs bcs2∧Own w1 M1 bout [.pointer q] 345∧Own w1 M1 br [.pointer none] 345) (bs.length) [(1,mval mb),(4, .pointer (some ⟨br,0,none⟩)),(11, .pointer (some ⟨bout,0,none⟩)),(46, .slice sa bs.length sc),(47, .int .i64 (bs.length:Nat)),(48, .int .i64 (0:Nat))] (.cons rfl (.cons rfl (.cons rfl (.cons rfl (.cons rfl (.cons rfl (.nil _))))))) ?_ ?_
 ·exact ⟨0,_,_,rfl,Nat.zero_le _,rfl,hT.to (by simp only [List.take_zero,sinsertsC]; omega),hrd0,hbb,hbl,hoout,hor⟩
 have hbrw:w.heap.size≤br∧w.heap.size≤bout∧bout≠br∧br<w13.heap.size∧bout<w13.heap.size:=by omega
 have hbf2:∀ g,(Value.slice sa bs.length sc).ownBlock=some g→g≠br∧g≠bout:=fun g hg=>by have:=hbf g hg; omega
 clear hT hrd0 hbb hbl hoout hor
 rintro mm l1 w1 ⟨i,q,M1,rfl,hi,rfl,hT,hrd,hbb,hbl,hoout,hor⟩
 have hszi:=sins_size (lt:=ltB) (bs.take i) (bmeld ltB ks.reverse (slevel ltB (ts.eraseIdx (leastN ltB (ts.map RT.root) (ts.length-1)))))
 rw [List.length_take] at hszi
 have:=hoout.1.lt
 have:=hor.1.lt
 refine Ri fun Z=>Qq rfl (q_lt rfl rfl)<|Nx Z<|cw_seq fun _ hK14=>cw_cond rfl (fun hc1=>?_) (fun hc1=>?_)
 ·have hlt:i<bs.length:=by have:=of_decide_eq_true hc1; omega
  obtain ⟨y,hy⟩:∃ y,bs[i]? = some y:=⟨bs[i],by simp⟩
  obtain ⟨yc,hyl,hyx,hyc⟩:=hbl.get hy
  obtain ⟨g,o,rfl⟩:=hbb.rd.there O
  obtain ⟨qy,rfl,_⟩:=encB_iff.1 hyx
  have hblt:=hbb.lt
  refine cw_skip<|hK14 _ _<|cw_seq fun _ hK15=>cw_block<|Ri fun Z=>Qq rfl (qi 172 1 rfl)<|Qc 1 rfl ⟨rfl,fun j u hj=>by rw [Nat.add_assoc]; exact Buf.cell hbb (hyc j u hj)⟩ ?_
  have:=hT.size
  refine Al (.agg #[(.pointer none)]) hT.sat rfl fun byy w14 hs14 hoyy eyy=>?_
  have:=hs14.size
  have:=hoyy.1.lt
  refine St hs14.sat hoyy rfl fun w15 hs15 hoyy=>?_
  have:=hs15.size
  refine Nx Z<|cw_region fun _ Z=>?_
  have hoout:=hoout.t hs14 |>.u hs15
  refine Qc 1 rfl (OD hoout rfl)<|Qm rfl<|Qc 1 rfl (OD hoyy rfl)<|Ca rfl ((sh_insert (x:=y) hs15.sat hyx hrd O).mono ?_)
  rintro _ w16 ⟨qi,Mi,rfl,hs16,hin⟩
  have hrd:=hrd.mono' EncB.mono hs16.le
  have:=hs16.size
  have hoout:=hoout.t hs16
  refine St hs16.sat hoout rfl fun w17 hs17 hoout=>?_
  have:=hs17.size
  refine as_nil (Z _ _ ?_)
  refine hK15 _ _<|cw_region fun _ Z=>Qq rfl (qA rfl)<|Qm rfl<|as_nil (Z _ _ ?_)
  have hbb:=hbb.t hs14 |>.step hs15 (fun g2 hg h=>by have h:g2=byy:=h; have:=hblt _ hg; omega) |>.t hs16 |>.step hs17 (fun g2 hg h=>(hbf2 g2 hg).2 h)
  have hor:=hor.t hs14 |>.u hs15 |>.t hs16 |>.step hs17 (fun h=>by have h:br=bout:=h; omega)
  have hT:=hT.t hs14 |>.o hs15 |>.t hs16 |>.o hs17
  have hbl:=hbl.mono EncB.mono hs16.le
  refine ⟨_,_,?_,(.cons rfl (.cons rfl (.cons rfl (.cons rfl (.cons rfl (.cons rfl (.nil _))))))),i+1,_,Mi,rfl,by omega,rfl,hT.to (by rw [List.take_add_one,hy]; simp only [Option.toList]; rw [sinsertsC_snoc]; omega),?_,hbb,hbl,hoout,hor⟩
  ·omega
  ·rw [List.take_add_one,hy,List.foldl_append]; exact hin
 ·have hge:i=bs.length:=by have:=of_decide_eq_false hc1; omega
  refine cw_exit<|hK11 _ _<|Ri fun Z=>Qc 1 rfl (OD hoout rfl)<|St hT.sat hor rfl fun w18 hs18 hor=>?_
  have:=hs18.size
  refine Na rfl Z<|cw_ret ?_
  subst hge
  have hT:=hT.o hs18
  rw [List.take_length] at hrd hT
  exact ⟨_,(Rc 1 rfl (OD hor rfl) (Rt rfl)),_,_,rfl,hT.to (by unfold spopC; simp only [RT.kids,RT.beside]; omega),hrd⟩
end Go.Proofs.YtnnldppehojffaaGreat
