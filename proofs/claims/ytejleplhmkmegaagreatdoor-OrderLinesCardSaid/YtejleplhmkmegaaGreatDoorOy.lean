/- Texts joined: OuK. -/
import Derived.Test.YtejleplhmkmegaaGreatDoorOx
import Derived.Test.YtejleplhmkmegaaGreatDoorOr
import Derived.Test.YtejleplhmkmegaaGreatDoorOe
set_option linter.unusedVariables false
set_option linter.unusedSimpArgs false
namespace Go.Proofs.YtejleplhmkmegaaGreatDoor
set_option maxRecDepth 100000
open Go.ChangeShapes Go.WideShapes Go.ChangeAt Go.RowKit Go.Fl
attribute [local go_sem] run_store_float run_equalIn_float
theorem refNums_early (v:GrpV) (d:GroupD) (q:QryV) (dq:QryD) (L:List (Nat×FilD)) (vd vm:Value) (ds ms:List ByteArray) (g:Int) (w:World) (hd:StrsSl w vd ds) (hm:StrsSl w vm ms)
  (HC:∀W,Below w.heap.size w W→Calls Tryz.prog 33 #[.agg #[vd,vm,.int .i64 g],.agg q.cells] W (IntPost (checkQ ds ms g dq L:Nat) W)) (hne:checkQ ds ms g dq L≠0) (l:List NumD):
  Calls Tryz.prog 34 #[.agg #[vd,vm,.int .i64 g],.agg q.cells,.agg v.cells] w (NumsPost l (numsErr ds ms g dq L d) w):=by
 unfold numsErr
 rw [if_neg hne]
 replace HC:=hid HC
 obtain ⟨r,hr⟩:∃r,checkQ ds ms g dq L=r:=⟨_,rfl⟩
 rw [hr] at HC hne ⊢
 obtain ⟨ad,cd,rfl,_,_,_⟩:=SlAt.shape hd
 obtain ⟨am',cm,rfl,_,_,_⟩:=SlAt.shape hm
 have h1:((r:Int)==0)=false:=by simpa using hne
 have h2:¬(r:Int)=0:=by omega
 clear hd hm hr
 obtain ⟨st,tm,ka,kn,kc,n,sa,sn,sc,ma,mn,mc,xa,xn,xc⟩:=v
 dsimp only [GrpV.cells,GrpV.list] at*
 obtain ⟨aa,LA,ac,ba,LB,bc,mode,sa',LS,sc',every,kind,name,wa,wn,wk,fr,till,la,ln,lc,ha,LH,hc,oa,LO,oc,limit⟩:=q
 dsimp only [QryV.cells] at*
 go_enter Tryz.func34,Tryz.ntmps34
 go_wp2_with (go_at_call 33;go_loud ((with_reducible refine (HC.out _ Gr).mono ?_);rintro e w1 ⟨rfl,hb1⟩))
 go_ret2
 exact ⟨_,rfl,Gr,.inr ⟨h2,rfl⟩⟩
set_option maxHeartbeats 1000000 in
theorem refNums_bad (v:GrpV) (d:GroupD) (q:QryV) (dq:QryD) (L:List (Nat×FilD)) (vd vm:Value) (ds ms:List ByteArray) (g:Int) (w:World) (hd:StrsSl w vd ds) (hm:StrsSl w vm ms) (hg:GrpN (fun _=>True) w v d) (hsm:GSm d) (tm':ms.length≤1000)
  (HC:∀W,Below w.heap.size w W→Calls Tryz.prog 33 #[.agg #[vd,vm,.int .i64 g],.agg q.cells] W (IntPost (checkQ ds ms g dq L:Nat) W)) (hne:checkQ ds ms g dq L=0) (hok:gOkB ms.length d=false) (l:List NumD):
  Calls Tryz.prog 34 #[.agg #[vd,vm,.int .i64 g],.agg q.cells,.agg v.cells] w (NumsPost l (numsErr ds ms g dq L d) w):=by
 unfold numsErr
 rw [if_pos hne,if_neg (by rw [hok];simp)]
 rw [hne] at HC
 replace HC:=hid HC
 obtain ⟨ad,cd,rfl,_,_,_⟩:=SlAt.shape hd
 obtain ⟨am',cm,rfl,_,_,_⟩:=SlAt.shape hm
 obtain ⟨p0,_⟩:=SlAt.parts hg.sums.sl
 obtain ⟨p1,_⟩:=SlAt.parts hg.mins.sl
 obtain ⟨p2,_⟩:=SlAt.parts hg.maxs.sl
 have p3:=hg.n
 obtain ⟨h1,h2,h3⟩:=hsm
 unfold gOkB at hok
 rw [←p0,←p1,←p2,←p3] at hok
 rw [←p0] at h1;rw [←p1] at h2;rw [←p2] at h3
 have HOK:=hid hok
 clear hd hm hg hok p0 p1 p2 p3 hne
 generalize ds.length=nd at*;generalize ms.length=nm at*
 obtain ⟨st,tm,ka,kn,kc,n,sa,sn,sc,ma,mn,mc,xa,xn,xc⟩:=v
 dsimp only [GrpV.cells,GrpV.list] at*
 obtain ⟨aa,LA,ac,ba,LB,bc,mode,sa',LS,sc',every,kind,name,wa,wn,wk,fr,till,la,ln,lc,ha,LH,hc,oa,LO,oc,limit⟩:=q
 dsimp only [QryV.cells] at*
 have hcase:¬sn=nm∨(sn=nm∧¬mn=nm)∨(sn=nm∧mn=nm∧¬xn=nm)∨(sn=nm∧mn=nm∧xn=nm∧n<1)∨(sn=nm∧mn=nm∧xn=nm∧¬n<1∧13000000000<n):=by
  have:=HOK.out
  simp at this
  omega
 clear HOK
 rcases hcase with h|⟨rfl,h⟩|⟨rfl,rfl,h⟩|⟨rfl,rfl,rfl,h⟩|⟨rfl,rfl,rfl,h,h'⟩
 ·have ha:((sn:Int)==(nm:Int))=false:=by simp;omega
  have hb:decide ((sn:Int)=(nm:Int))=false:=by simp;omega
  have hc':decide (sn=nm)=false:=by simpa using h
  go_enter Tryz.func34,Tryz.ntmps34
  go_wp2_with (go_at_call 33;go_loud ((with_reducible refine (HC.out _ Gr).mono ?_);rintro e w1 ⟨rfl,hb1⟩;obtain ⟨hc1,hf1,hk1,hz1⟩:=bcell3 hb1;(try simp only [World.size_alloc,World.size_drew] at hz1);have:w.heap.size<w1.heap.size:=(by omega);have:w.heap.size+1<w1.heap.size:=(by omega);have:w.heap.size+1+1<w1.heap.size:=(by omega)))
  go_ret2
  exact ⟨_,rfl,Gr,.inr ⟨by decide,rfl⟩⟩
 ·have ha:((mn:Int)==(sn:Int))=false:=by simp;omega
  have hb:decide ((mn:Int)=(sn:Int))=false:=by simp;omega
  have hc':decide (mn=sn)=false:=by simpa using h
  go_enter Tryz.func34,Tryz.ntmps34
  go_wp2_with (go_at_call 33;go_loud ((with_reducible refine (HC.out _ Gr).mono ?_);rintro e w1 ⟨rfl,hb1⟩;obtain ⟨hc1,hf1,hk1,hz1⟩:=bcell3 hb1;(try simp only [World.size_alloc,World.size_drew] at hz1);have:w.heap.size<w1.heap.size:=(by omega);have:w.heap.size+1<w1.heap.size:=(by omega);have:w.heap.size+1+1<w1.heap.size:=(by omega)))
  go_ret2
  exact ⟨_,rfl,Gr,.inr ⟨by decide,rfl⟩⟩
 ·have ha:((xn:Int)==(mn:Int))=false:=by simp;omega
  have hb:decide ((xn:Int)=(mn:Int))=false:=by simp;omega
  have hc':decide (xn=mn)=false:=by simpa using h
  go_enter Tryz.func34,Tryz.ntmps34
  go_wp2_with (go_at_call 33;go_loud ((with_reducible refine (HC.out _ Gr).mono ?_);rintro e w1 ⟨rfl,hb1⟩;obtain ⟨hc1,hf1,hk1,hz1⟩:=bcell3 hb1;(try simp only [World.size_alloc,World.size_drew] at hz1);have:w.heap.size<w1.heap.size:=(by omega);have:w.heap.size+1<w1.heap.size:=(by omega);have:w.heap.size+1+1<w1.heap.size:=(by omega)))
  go_ret2
  exact ⟨_,rfl,Gr,.inr ⟨by decide,rfl⟩⟩
 ·skip
  go_enter Tryz.func34,Tryz.ntmps34
  go_wp2_with (go_at_call 33;go_loud ((with_reducible refine (HC.out _ Gr).mono ?_);rintro e w1 ⟨rfl,hb1⟩;obtain ⟨hc1,hf1,hk1,hz1⟩:=bcell3 hb1;(try simp only [World.size_alloc,World.size_drew] at hz1);have:w.heap.size<w1.heap.size:=(by omega);have:w.heap.size+1<w1.heap.size:=(by omega);have:w.heap.size+1+1<w1.heap.size:=(by omega)))
  go_ret2
  exact ⟨_,rfl,Gr,.inr ⟨by decide,rfl⟩⟩
 ·skip
  go_enter Tryz.func34,Tryz.ntmps34
  go_wp2_with (go_at_call 33;go_loud ((with_reducible refine (HC.out _ Gr).mono ?_);rintro e w1 ⟨rfl,hb1⟩;obtain ⟨hc1,hf1,hk1,hz1⟩:=bcell3 hb1;(try simp only [World.size_alloc,World.size_drew] at hz1);have:w.heap.size<w1.heap.size:=(by omega);have:w.heap.size+1<w1.heap.size:=(by omega);have:w.heap.size+1+1<w1.heap.size:=(by omega)))
  go_ret2
  exact ⟨_,rfl,Gr,.inr ⟨by decide,rfl⟩⟩
structure RNSt (w:World) (sc qc gc:Array Value) (X:World):Prop where
 s:X.heap[w.heap.size]? =some (.cells sc 45 (0,0))
 q:X.heap[w.heap.size+1]? =some (.cells qc 33 (0,0))
 g:X.heap[w.heap.size+1+1]? =some (.cells gc 79 (0,0))
 bel:Below w.heap.size w X
theorem RNSt.step {w X Y:World} {sc qc gc:Array Value} (h:RNSt w sc qc gc X) (hb:Below X.heap.size X Y):RNSt w sc qc gc Y:=⟨blk_below h.s hb,blk_below h.q hb,blk_below h.g hb,h.bel.step hb⟩
theorem RNSt.grow {w X Y:World} {sc qc gc:Array Value} {e:TypeId} {size:Nat} {v:Value} {n:Nat} {xs:List Value} (h:RNSt w sc qc gc X) (ho:X.ownsRow (w.heap.size+1+1+1) e size v n xs) (hg:X.grownBy Y v.ownBlock):RNSt w sc qc gc Y:=
 ⟨own_blk ho hg (by omega) h.s,own_blk ho hg (by omega) h.q,own_blk ho hg (by omega) h.g,own_below ho hg h.bel (by omega)⟩
set_option maxHeartbeats 16000000 in
theorem refNums_go (v:GrpV) (d:GroupD) (q:QryV) (dq:QryD) (L:List (Nat×FilD)) (vd vm:Value) (ds ms:List ByteArray) (g:Int) (w:World) (hd:StrsSl w vd ds) (hm:StrsSl w vm ms) (td:Texts ds) (tm:Texts ms) (hg:GrpN (fun _=>True) w v d) (gok:GrpOk d) (hsm:GSm d)
  (hq:AggsSl w (.slice q.aa q.an q.ac) dq.aggs) (hql:dq.aggs.length≤1000)
  (HC:∀W,Below w.heap.size w W→Calls Tryz.prog 33 #[.agg #[vd,vm,.int .i64 g],.agg q.cells] W (IntPost (checkQ ds ms g dq L:Nat) W)) (hty:dq.aggs.all (typedB ds ms g)=true) (hne:checkQ ds ms g dq L=0) (hok:gOkB ms.length d=true):
  Calls Tryz.prog 34 #[.agg #[vd,vm,.int .i64 g],.agg q.cells,.agg v.cells] w (NumsPost (fstL (numsOf ds ms g dq.aggs d)) (numsErr ds ms g dq L d) w):=by
 obtain ⟨i0,hi,hiz0,hiz1,hiz2⟩:=info_parts info_num
 unfold numsErr
 rw [if_pos hne,if_pos hok]
 rw [hne] at HC
 replace HC:=hid HC
 have HM:=hid (fun x W (h:Below w.heap.size w W)=>refMetric_any vd vm ds ms g x W (hd.below h) (hm.below h) td tm)
 have hokp:d.sums.length=ms.length∧d.mins.length=ms.length∧d.maxs.length=ms.length∧1≤d.n∧d.n≤13000000000:=by
  unfold gOkB at hok
  simp at hok
  omega
 obtain ⟨o1,o2,o3,o4,o5⟩:=hokp
 obtain ⟨p0,_⟩:=SlAt.parts hg.sums.sl
 obtain ⟨p1,_⟩:=SlAt.parts hg.mins.sl
 obtain ⟨p2,_⟩:=SlAt.parts hg.maxs.sl
 have p3:=hg.n
 have HG:=hid hg;have HGO:=hid gok
 have HOL:=hid (⟨o1,o2,o3⟩:_∧_∧_)
 obtain ⟨aoq,capq,heq,hq1,hq2,hq3,hqA⟩:=agg_parts hq
 have HQA:=hid hqA;have HTY:=hid hty
 obtain ⟨NO,hNO⟩:∃NO,numsOf ds ms g dq.aggs d=NO:=⟨_,rfl⟩
 have HNO:=hid hNO
 have HNL:Hid (NO.length=dq.aggs.length):=by unfold Hid;rw [←hNO];simp [numsOf]
 rw [hNO]
 obtain ⟨ad,cd,rfl,_,_,_⟩:=SlAt.shape hd
 obtain ⟨am',cm,rfl,_,_,_⟩:=SlAt.shape hm
 have hvn:v.sn=ms.length∧v.mn=ms.length∧v.xn=ms.length:=⟨by omega,by omega,by omega⟩
 obtain ⟨e1,e2,e3⟩:=hvn
 rw [←p3] at o4 o5
 have HN3:=hid p3
 have htm:=tm.1
 unfold maxLen at hq2
 obtain ⟨N,hN⟩:∃N,dq.aggs.length=N:=⟨_,rfl⟩
 have HN:=hid hN
 rw [hN] at heq hq1 hql
 simp only [Value.slice.injEq] at heq
 clear hd hm td tm hg gok hsm hq hty hok hNO hqA p0 p1 p2 p3 o1 o2 o3 hne hN hq3
 obtain ⟨st,tm2,ka,kn,kc,n,sa,sn,sc,ma,mn,mc,xa,xn,xc⟩:=v
 dsimp only [GrpV.cells,GrpV.list] at*
 subst e1 e2 e3
 obtain ⟨aa,LA,ac,ba,LB,bc,mode,sa',LS,sc',every,kind,name,wa,wn,wk,fr,till,la,ln,lc,ha,LH,hc,oa,LO,oc,limit⟩:=q
 dsimp only [QryV.cells] at*
 obtain ⟨rfl,rfl,rfl⟩:=heq
 have o4':¬n<1:=by omega
 have o5':¬(13000000000:Int)<n:=by omega
 have HX3:Hid (∀w1,Below (((w.alloc (.cells #[.slice ad ds.length cd,.slice am' ms.length cm,.int .i64 g] 45)).alloc (.cells #[.slice aa LA ac,.slice ba LB bc,.int .i64 mode,.slice sa' LS sc',.int .i64 every,.int .i64 kind,.string name,.slice wa wn wk,.int .i64 fr,.int .i64 till,.slice la ln lc,.slice ha LH hc,.slice oa LO oc,.int .i64 limit] 33)).alloc (.cells #[.int .i64 st,.int .i64 tm2,.slice ka kn kc,.int .i64 n,.slice sa ms.length sc,.slice ma ms.length mc,.slice xa ms.length xc] 79)).heap.size (((w.alloc (.cells #[.slice ad ds.length cd,.slice am' ms.length cm,.int .i64 g] 45)).alloc (.cells #[.slice aa LA ac,.slice ba LB bc,.int .i64 mode,.slice sa' LS sc',.int .i64 every,.int .i64 kind,.string name,.slice wa wn wk,.int .i64 fr,.int .i64 till,.slice la ln lc,.slice ha LH hc,.slice oa LO oc,.int .i64 limit] 33)).alloc (.cells #[.int .i64 st,.int .i64 tm2,.slice ka kn kc,.int .i64 n,.slice sa ms.length sc,.slice ma ms.length mc,.slice xa ms.length xc] 79)) w1→RNSt w #[.slice ad ds.length cd,.slice am' ms.length cm,.int .i64 g] #[.slice aa LA ac,.slice ba LB bc,.int .i64 mode,.slice sa' LS sc',.int .i64 every,.int .i64 kind,.string name,.slice wa wn wk,.int .i64 fr,.int .i64 till,.slice la ln lc,.slice ha LH hc,.slice oa LO oc,.int .i64 limit] #[.int .i64 st,.int .i64 tm2,.slice ka kn kc,.int .i64 n,.slice sa ms.length sc,.slice ma ms.length mc,.slice xa ms.length xc] w1):=by
  intro w1 hb
  obtain ⟨y0,y1,y2,y3,_⟩:=three_blk hb
  exact ⟨y0,y1,y2,y3⟩
 go_enter Tryz.func34,Tryz.ntmps34
 go_wp2_with (go_at_call 33;go_loud ((with_reducible refine (HC.out _ Gr).mono ?_);rintro e w1 ⟨rfl,hb1⟩;have HX4:=hid (HX3.out _ hb1);have hz1:=hb1.size;have b1:=cell_blk (i:=1) (x:= .slice am' ms.length cm) HX4.out.s rfl;have b3:=cell_blk (i:=3) (x:= .int .i64 n) HX4.out.g rfl;have b4:=cell_blk (i:=4) (x:= .slice sa ms.length sc) HX4.out.g rfl;have b5:=cell_blk (i:=5) (x:= .slice ma ms.length mc) HX4.out.g rfl;have b6:=cell_blk (i:=6) (x:= .slice xa ms.length xc) HX4.out.g rfl;have c0:=cell_blk (i:=0) (x:= .slice aa LA ac) HX4.out.q rfl;clear hb1))
 simp only [World.size_alloc] at hz1
 clear b1 b3 b4 b5 b6
 go_loopw [10,11,12,13,14,15,16,17,18] (fun o iv _ _ _ _ _ _ _ wr=>∃k:Nat,k≤LA∧iv= .int .i64 (k:Int)∧RNSt w #[.slice ad ds.length cd,.slice am' ms.length cm,.int .i64 g] #[.slice aa LA ac,.slice ba LB bc,.int .i64 mode,.slice sa' LS sc',.int .i64 every,.int .i64 kind,.string name,.slice wa wn wk,.int .i64 fr,.int .i64 till,.slice la ln lc,.slice ha LH hc,.slice oa LO oc,.int .i64 limit] #[.int .i64 st,.int .i64 tm2,.slice ka kn kc,.int .i64 n,.slice sa ms.length sc,.slice ma ms.length mc,.slice xa ms.length xc] wr∧w.heap.size+1+1+1≤wr.heap.size∧wr.ownsRow (w.heap.size+1+1+1) 63 3 o k ((fstL (NO.take k)).flatMap NumD.cells)∧∀j y,j<k→NO[j]? =some y→y.2=0) (fun _ iv _ _ _ _ _ _ _ _=>LA-(intOf iv).toNat)
 case atStart=>exact ⟨0,Nat.zero_le _,rfl,HX4.out,by omega,(show w1.ownsRow (w.heap.size+1+1+1) 63 3 _ 0 [] from World.ownsRow_nil _ _ _ _),fun j y h=>absurd h (Nat.not_lt_zero j)⟩
 case round=>
  obtain ⟨k,hk,rfl,hns,hwz,hown,hz⟩:=hrel
  have HNS:=hid hns;have HO:=hid hown;have HZ:=hid hz
  have hk0:(0:Int)≤(k:Int):=Int.natCast_nonneg _
  clear hns hown hz c0
  by_cases hlt:k<LA
  ·have hlen:k<dq.aggs.length:=by rw [HN.out];exact hlt
   have hltI:(k:Int)<(LA:Int):=by omega
   obtain ⟨b,off,rfl,hc⟩:=HQA.out (by omega)
   obtain ⟨c0,c1⟩:=hc k hlen
   have hbw:=HNS.out.bel
   replace c0:=cell_step c0 hbw;replace c1:=cell_step c1 hbw
   have hat:NO[k]? =some (numG d (atOf ds ms g dq.aggs[k]) dq.aggs[k].kind):=by
    rw [←HNO.out]
    unfold numsOf
    rw [List.getElem?_map,List.getElem?_eq_getElem hlen]
    rfl
   have hty:=(List.all_eq_true.1 HTY.out) _ (List.getElem_mem hlen)
   have HMM:=hid (HM.out dq.aggs[k].metric)
   have HTK:Hid (NO.take (k+1)=NO.take k++[numG d (atOf ds ms g dq.aggs[k]) dq.aggs[k].kind]):=by
    obtain ⟨h1,h2⟩:=List.getElem?_eq_some_iff.1 hat
    unfold Hid
    rw [List.take_succ_eq_append_getElem h1,h2]
   unfold typedB at hty
   have hpl:=place_nat (rightS ds ms g) (Lib.idxOfS ms dq.aggs[k].metric)
   have hplt:dq.aggs[k].kind≠1→(placeI (rightS ds ms g) (Lib.idxOfS ms dq.aggs[k].metric)).toNat<ms.length∧1<dq.aggs[k].kind∧dq.aggs[k].kind≤5:=fun h=>by
    rw [if_neg h] at hty
    simp only [Bool.and_eq_true,decide_eq_true_eq] at hty
    exact ⟨place_lt hty.1,hty.2⟩
   rw [hpl] at HMM
   have HAT:=hid hat
   unfold atOf at HAT HTK
   obtain ⟨i,hi2⟩:∃i,(placeI (rightS ds ms g) (Lib.idxOfS ms dq.aggs[k].metric)).toNat=i:=⟨_,rfl⟩
   rw [hi2] at HMM HAT HTK hplt
   generalize placeB (rightS ds ms g) (Lib.idxOfS ms dq.aggs[k].metric)=pb at*
   clear hty hpl hi2 hat hc
   generalize dq.aggs[k].kind=kd at*;generalize dq.aggs[k].metric=mt at*
   have hkc:kd=1∨(i<ms.length∧(kd=2∨kd=3∨kd=4∨kd=5)):=by
    by_cases h:kd=1
    ·exact .inl h
    ·have:=hplt h
     omega
   clear hplt
   have s0:=cell_blk (i:=0) (x:= .slice ad ds.length cd) HNS.out.s rfl;have s1:=cell_blk (i:=1) (x:= .slice am' ms.length cm) HNS.out.s rfl;have s2:=cell_blk (i:=2) (x:= .int .i64 g) HNS.out.s rfl
   have q0:=cell_blk (i:=0) (x:= .slice (some ⟨b,off,none⟩) LA ac) HNS.out.q rfl
   have hsw:w.heap.size<wr.heap.size:=by omega
   have hsw2:w.heap.size+1<wr.heap.size:=by omega
   have hsw3:w.heap.size+1+1<wr.heap.size:=by omega
   have hi00:(0:Int)≤(i:Int):=Int.natCast_nonneg _
   rcases hkc with rfl|⟨hil,rfl|rfl|rfl|rfl⟩
   ·have HNQ:=hid (show numG d i 1=(⟨n,false,0⟩,0) from by rw [show n=d.n from HN3.out];rfl)
    rw [HNQ.out] at HAT HTK
    have HTK2:Hid ((fstL (NO.take (k+1))).flatMap NumD.cells=(fstL (NO.take k)).flatMap NumD.cells++[.bool false,.int .i64 n,.float .f64 0]):=by
     unfold Hid
     rw [HTK.out]
     unfold fstL
     rw [List.map_append,List.flatMap_append]
     rfl
    go_wp2_with (first
     |(go_at_call 73;go_loud ((with_reducible refine (HMM.out _ (HNS.out.bel.new _)).mono ?_);rintro e w2 ⟨rfl,hb2⟩;have hbr2:Below wr.heap.size wr w2:=Gr;have NS2:=HNS.out.step hbr2;have NS2h:=hid NS2;have g3:=cell_blk (i:=3) (x:= .int .i64 n) NS2.g rfl;have g4:=cell_blk (i:=4) (x:= .slice sa ms.length sc) NS2.g rfl;have g5:=cell_blk (i:=5) (x:= .slice ma ms.length mc) NS2.g rfl;have g6:=cell_blk (i:=6) (x:= .slice xa ms.length xc) NS2.g rfl;have a0:w2.cell? ⟨wr.heap.size,0,none⟩=some (.int .i64 1):=cell_step (cell_blk (heap_at rfl) rfl) hb2;have HBR2:=hid hbr2;have hz2:=hbr2.size;clear NS2 hbr2 hb2))
     |(at_builtin;go_loud (refine wpList_append_sl _ rfl _ _ 35 rfl (w.heap.size+1+1+1) 63 i0 (.agg #[.bool false,.int .i64 0,.float .f64 0]) 3 24 Tryz.underlying35 hi hiz0 hiz1 hiz2 rfl (by decide) _ k _ rfl ((row_below HO.out HBR2.out).alloc _) (.slice (some ⟨w2.heap.size,0,none⟩) 1 1) 1 [.bool false,.int .i64 n,.float .f64 0] rfl (SlAt.new w2 #[.bool false,.int .i64 n,.float .f64 0] 63) (by simp [Value.oneCell']) (by unfold maxLen;omega) (by omega) (by simp;omega) ?_);intro v1 w5 hown1 hgrow1 hnb))
    go_roundw
    case rel=>
     refine ⟨k+1,hlt,by go_num,(NS2h.out.step ((Below.refl _ _).new _)).grow ((row_below HO.out HBR2.out).alloc _) hgrow1,by have:=hgrow1.size;simp only [World.size_alloc] at this;omega,by rw [HTK2.out];exact hown1,fun j y hj hy=> ?_⟩
     by_cases hjk:j<k
     ·exact HZ.out j y hjk hy
     ·obtain rfl:j=k:=by omega
      rw [HAT.out] at hy
      rw [←Option.some.inj hy]
    case measure=>simp [intOf];omega
   ·obtain ⟨bs,os,hsb,hq9,d0,d1⟩:=sums_at HG.out (i:=i) (by rw [HOL.out.1];exact hil)
    clear hq9
    have HT:=hid (fun W=>refTo_any (d.sums.getD i 0) W)
    have HNQ:=hid (show numG d i 2=(⟨toV (d.sums.getD i 0),false,0⟩,toE (d.sums.getD i 0)) from rfl)
    rw [HNQ.out] at HAT HTK
    generalize toV (d.sums.getD i 0)=tv at*;generalize toE (d.sums.getD i 0)=te at*
    generalize hiW (d.sums.getD i 0)=x at*;generalize loW (d.sums.getD i 0)=y at*
    have hilI:(i:Int)<(ms.length:Int):=by omega
    subst hsb
    replace d0:=cell_step d0 hbw;replace d1:=cell_step d1 hbw
    clear HNQ
    by_cases her:te=0
    ·subst her
     have HTK2:Hid ((fstL (NO.take (k+1))).flatMap NumD.cells=(fstL (NO.take k)).flatMap NumD.cells++[.bool false,.int .i64 tv,.float .f64 0]):=by
      unfold Hid
      rw [HTK.out]
      unfold fstL
      rw [List.map_append,List.flatMap_append]
      rfl
     go_wp2_with (first
      |(go_at_call 73;go_loud ((with_reducible refine (HMM.out _ (HNS.out.bel.new _)).mono ?_);rintro e w2 ⟨rfl,hb2⟩;have hbr2:Below wr.heap.size wr w2:=Gr;have NS2:=HNS.out.step hbr2;have NS2h:=hid NS2;have g3:=cell_blk (i:=3) (x:= .int .i64 n) NS2.g rfl;have g4:=cell_blk (i:=4) (x:= .slice (some ⟨bs,os,none⟩) ms.length sc) NS2.g rfl;have g5:=cell_blk (i:=5) (x:= .slice ma ms.length mc) NS2.g rfl;have g6:=cell_blk (i:=6) (x:= .slice xa ms.length xc) NS2.g rfl;have a0:w2.cell? ⟨wr.heap.size,0,none⟩=some (.int .i64 2):=cell_step (cell_blk (heap_at rfl) rfl) hb2;have HBR2:=hid hbr2;have hz2:=hbr2.size;have x0:=cell_step d0 hbr2;have x1:=cell_step d1 hbr2;clear NS2 hbr2 hb2))
      |(go_at_call 74;go_loud ((with_reducible refine (HT.out _).mono ?_);rintro e w3 ⟨rfl,hb3⟩;have HB3:=hid hb3;have hz3:=hb3.size;clear hb3))
      |(at_builtin;go_loud (refine wpList_append_sl _ rfl _ _ 35 rfl (w.heap.size+1+1+1) 63 i0 (.agg #[.bool false,.int .i64 0,.float .f64 0]) 3 24 Tryz.underlying35 hi hiz0 hiz1 hiz2 rfl (by decide) _ k _ rfl ((row_below HO.out (HBR2.out.step HB3.out)).alloc _) (.slice (some ⟨w3.heap.size,0,none⟩) 1 1) 1 [.bool false,.int .i64 tv,.float .f64 0] rfl (SlAt.new w3 #[.bool false,.int .i64 tv,.float .f64 0] 63) (by simp [Value.oneCell']) (by unfold maxLen;omega) (by omega) (by simp;omega) ?_);intro v1 w5 hown1 hgrow1 hnb))
     go_roundw
     case rel=>
      refine ⟨k+1,hlt,by go_num,((NS2h.out.step HB3.out).step ((Below.refl _ _).new _)).grow ((row_below HO.out (HBR2.out.step HB3.out)).alloc _) hgrow1,by have:=hgrow1.size;simp only [World.size_alloc] at this;omega,by rw [HTK2.out];exact hown1,fun j y hj hy=> ?_⟩
      by_cases hjk:j<k
      ·exact HZ.out j y hjk hy
      ·obtain rfl:j=k:=by omega
       rw [HAT.out] at hy
       rw [←Option.some.inj hy]
     case measure=>simp [intOf];omega
    ·have HE:Hid (firstE NO=te):=firstE_at HAT.out (fun j y hj hy=>HZ.out j y hj hy) her
     have HER:=hid her
     have heb:(te==0)=false:=by simpa using her
     have heb2:(te !=0)=true:=by simpa using her
     go_wp2_with (first
      |(go_at_call 73;go_loud ((with_reducible refine (HMM.out _ (HNS.out.bel.new _)).mono ?_);rintro e w2 ⟨rfl,hb2⟩;have hbr2:Below wr.heap.size wr w2:=Gr;have NS2:=HNS.out.step hbr2;have NS2h:=hid NS2;have g3:=cell_blk (i:=3) (x:= .int .i64 n) NS2.g rfl;have g4:=cell_blk (i:=4) (x:= .slice (some ⟨bs,os,none⟩) ms.length sc) NS2.g rfl;have g5:=cell_blk (i:=5) (x:= .slice ma ms.length mc) NS2.g rfl;have g6:=cell_blk (i:=6) (x:= .slice xa ms.length xc) NS2.g rfl;have a0:w2.cell? ⟨wr.heap.size,0,none⟩=some (.int .i64 2):=cell_step (cell_blk (heap_at rfl) rfl) hb2;have HBR2:=hid hbr2;have hz2:=hbr2.size;have x0:=cell_step d0 hbr2;have x1:=cell_step d1 hbr2;clear NS2 hbr2 hb2))
      |(go_at_call 74;go_loud ((with_reducible refine (HT.out _).mono ?_);rintro e w3 ⟨rfl,hb3⟩;have HB3:=hid hb3;have hz3:=hb3.size;clear hb3)))
     go_ret2
     exact ⟨.slice none 0 0,by rw [HE.out];rfl,(NS2h.out.bel.step HB3.out),.inr ⟨by rw [HE.out];exact HER.out,rfl⟩⟩
   ·have hil2:i<d.mins.length:=by rw [HOL.out.2.1];exact hil
    obtain ⟨bs,os,hsb,hcs⟩:=(SlAt.parts HG.out.mins.sl).2.2.2.2 (by simp;omega)
    have d0:=hcs i (.int .i64 (d.mins.getD i 0)) (by rw [List.getElem?_map,List.getD_eq_getElem?_getD,List.getElem?_eq_getElem hil2];rfl)
    have HNQ:=hid (show numG d i 3=(⟨d.mins.getD i 0,false,0⟩,0) from rfl)
    rw [HNQ.out] at HAT HTK
    generalize d.mins.getD i 0=tv at*
    have hilI:(i:Int)<(ms.length:Int):=by omega
    dsimp only at hsb
    subst hsb
    replace d0:=cell_step d0 hbw
    clear HNQ hcs hil2
    have HTK2:Hid ((fstL (NO.take (k+1))).flatMap NumD.cells=(fstL (NO.take k)).flatMap NumD.cells++[.bool false,.int .i64 tv,.float .f64 0]):=by
     unfold Hid
     rw [HTK.out]
     unfold fstL
     rw [List.map_append,List.flatMap_append]
     rfl
    go_wp2_with (first
     |(go_at_call 73;go_loud ((with_reducible refine (HMM.out _ (HNS.out.bel.new _)).mono ?_);rintro e w2 ⟨rfl,hb2⟩;have hbr2:Below wr.heap.size wr w2:=Gr;have NS2:=HNS.out.step hbr2;have NS2h:=hid NS2;have g3:=cell_blk (i:=3) (x:= .int .i64 n) NS2.g rfl;have g4:=cell_blk (i:=4) (x:= .slice sa ms.length sc) NS2.g rfl;have g5:=cell_blk (i:=5) (x:= .slice (some ⟨bs,os,none⟩) ms.length mc) NS2.g rfl;have g6:=cell_blk (i:=6) (x:= .slice xa ms.length xc) NS2.g rfl;have a0:w2.cell? ⟨wr.heap.size,0,none⟩=some (.int .i64 3):=cell_step (cell_blk (heap_at rfl) rfl) hb2;have HBR2:=hid hbr2;have hz2:=hbr2.size;have x0:=cell_step d0 hbr2;clear NS2 hbr2 hb2))
     |(at_builtin;go_loud (refine wpList_append_sl _ rfl _ _ 35 rfl (w.heap.size+1+1+1) 63 i0 (.agg #[.bool false,.int .i64 0,.float .f64 0]) 3 24 Tryz.underlying35 hi hiz0 hiz1 hiz2 rfl (by decide) _ k _ rfl ((row_below HO.out HBR2.out).alloc _) (.slice (some ⟨w2.heap.size,0,none⟩) 1 1) 1 [.bool false,.int .i64 tv,.float .f64 0] rfl (SlAt.new w2 #[.bool false,.int .i64 tv,.float .f64 0] 63) (by simp [Value.oneCell']) (by unfold maxLen;omega) (by omega) (by simp;omega) ?_);intro v1 w5 hown1 hgrow1 hnb))
    go_roundw
    case rel=>
     refine ⟨k+1,hlt,by go_num,(NS2h.out.step ((Below.refl _ _).new _)).grow ((row_below HO.out HBR2.out).alloc _) hgrow1,by have:=hgrow1.size;simp only [World.size_alloc] at this;omega,by rw [HTK2.out];exact hown1,fun j y hj hy=> ?_⟩
     by_cases hjk:j<k
     ·exact HZ.out j y hjk hy
     ·obtain rfl:j=k:=by omega
      rw [HAT.out] at hy
      rw [←Option.some.inj hy]
    case measure=>simp [intOf];omega
   ·have hil2:i<d.maxs.length:=by rw [HOL.out.2.2];exact hil
    obtain ⟨bs,os,hsb,hcs⟩:=(SlAt.parts HG.out.maxs.sl).2.2.2.2 (by simp;omega)
    have d0:=hcs i (.int .i64 (d.maxs.getD i 0)) (by rw [List.getElem?_map,List.getD_eq_getElem?_getD,List.getElem?_eq_getElem hil2];rfl)
    have HNQ:=hid (show numG d i 4=(⟨d.maxs.getD i 0,false,0⟩,0) from rfl)
    rw [HNQ.out] at HAT HTK
    generalize d.maxs.getD i 0=tv at*
    have hilI:(i:Int)<(ms.length:Int):=by omega
    dsimp only at hsb
    subst hsb
    replace d0:=cell_step d0 hbw
    clear HNQ hcs hil2
    have HTK2:Hid ((fstL (NO.take (k+1))).flatMap NumD.cells=(fstL (NO.take k)).flatMap NumD.cells++[.bool false,.int .i64 tv,.float .f64 0]):=by
     unfold Hid
     rw [HTK.out]
     unfold fstL
     rw [List.map_append,List.flatMap_append]
     rfl
    go_wp2_with (first
     |(go_at_call 73;go_loud ((with_reducible refine (HMM.out _ (HNS.out.bel.new _)).mono ?_);rintro e w2 ⟨rfl,hb2⟩;have hbr2:Below wr.heap.size wr w2:=Gr;have NS2:=HNS.out.step hbr2;have NS2h:=hid NS2;have g3:=cell_blk (i:=3) (x:= .int .i64 n) NS2.g rfl;have g4:=cell_blk (i:=4) (x:= .slice sa ms.length sc) NS2.g rfl;have g5:=cell_blk (i:=5) (x:= .slice ma ms.length mc) NS2.g rfl;have g6:=cell_blk (i:=6) (x:= .slice (some ⟨bs,os,none⟩) ms.length xc) NS2.g rfl;have a0:w2.cell? ⟨wr.heap.size,0,none⟩=some (.int .i64 4):=cell_step (cell_blk (heap_at rfl) rfl) hb2;have HBR2:=hid hbr2;have hz2:=hbr2.size;have x0:=cell_step d0 hbr2;clear NS2 hbr2 hb2))
     |(at_builtin;go_loud (refine wpList_append_sl _ rfl _ _ 35 rfl (w.heap.size+1+1+1) 63 i0 (.agg #[.bool false,.int .i64 0,.float .f64 0]) 3 24 Tryz.underlying35 hi hiz0 hiz1 hiz2 rfl (by decide) _ k _ rfl ((row_below HO.out HBR2.out).alloc _) (.slice (some ⟨w2.heap.size,0,none⟩) 1 1) 1 [.bool false,.int .i64 tv,.float .f64 0] rfl (SlAt.new w2 #[.bool false,.int .i64 tv,.float .f64 0] 63) (by simp [Value.oneCell']) (by unfold maxLen;omega) (by omega) (by simp;omega) ?_);intro v1 w5 hown1 hgrow1 hnb))
    go_roundw
    case rel=>
     refine ⟨k+1,hlt,by go_num,(NS2h.out.step ((Below.refl _ _).new _)).grow ((row_below HO.out HBR2.out).alloc _) hgrow1,by have:=hgrow1.size;simp only [World.size_alloc] at this;omega,by rw [HTK2.out];exact hown1,fun j y hj hy=> ?_⟩
     by_cases hjk:j<k
     ·exact HZ.out j y hjk hy
     ·obtain rfl:j=k:=by omega
      rw [HAT.out] at hy
      rw [←Option.some.inj hy]
    case measure=>simp [intOf];omega
   ·obtain ⟨bs,os,hsb,hq9,d0,d1⟩:=sums_at HG.out (i:=i) (by rw [HOL.out.1];exact hil)
    clear hq9
    have HT:=hid (fun W=>rof_any (d.sums.getD i 0) d.n (HGO.out.sums _ (by rw [List.getD_eq_getElem?_getD,List.getElem?_eq_getElem (show i<d.sums.length by rw [HOL.out.1];exact hil)];exact List.getElem_mem _)) HGO.out.n W)
    have HNQ:=hid (show numG d i 5=(⟨0,true,ofF (d.sums.getD i 0) d.n⟩,0) from rfl)
    rw [HNQ.out] at HAT HTK
    have hn3:n=d.n:=HN3.out
    rw [←hn3] at HT HAT HTK
    generalize ofF (d.sums.getD i 0) n=tv at*;generalize ofE n=te at*
    generalize hiW (d.sums.getD i 0)=x at*;generalize loW (d.sums.getD i 0)=y at*
    have hilI:(i:Int)<(ms.length:Int):=by omega
    subst hsb
    replace d0:=cell_step d0 hbw;replace d1:=cell_step d1 hbw
    clear HNQ hn3
    have HTK2:Hid ((fstL (NO.take (k+1))).flatMap NumD.cells=(fstL (NO.take k)).flatMap NumD.cells++[.bool true,.int .i64 0,.float .f64 tv]):=by
     unfold Hid
     rw [HTK.out]
     unfold fstL
     rw [List.map_append,List.flatMap_append]
     rfl
    go_wp2_with (go_at_call 73;go_loud ((with_reducible refine (HMM.out _ (HNS.out.bel.new _)).mono ?_);rintro e w2 ⟨rfl,hb2⟩;have hbr2:Below wr.heap.size wr w2:=Gr;have NS2:=HNS.out.step hbr2;have NS2h:=hid NS2;have g3:=cell_blk (i:=3) (x:= .int .i64 n) NS2.g rfl;have g4:=cell_blk (i:=4) (x:= .slice (some ⟨bs,os,none⟩) ms.length sc) NS2.g rfl;have g5:=cell_blk (i:=5) (x:= .slice ma ms.length mc) NS2.g rfl;have g6:=cell_blk (i:=6) (x:= .slice xa ms.length xc) NS2.g rfl;have a0:w2.cell? ⟨wr.heap.size,0,none⟩=some (.int .i64 5):=cell_step (cell_blk (heap_at rfl) rfl) hb2;have HBR2:=hid hbr2;have hz2:=hbr2.size;have x0:=World.plus_cell (cell_step d0 hbr2);have x1:=World.plus_cell (cell_step d1 hbr2);have pg3:=World.plus_cell g3;have pg4:=World.plus_cell g4;clear NS2 hbr2 hb2))
    refine wp_region_plus (by kernel_rfl) (by kernel_rfl) ?_
    repeat (first|go_big_quiet_skip|(go_big_quiet_want;go_big_quiet_op;first|go_big_quiet_on|go_big_quiet_call (((go_at_call 75;exact Calls.plus_of (HT.out _))))))
    refine wpQuiet_nil ?_
    rintro _ ⟨xq,rfl⟩
    have HB3:=hid (World.plus_below w2 xq)
    have hz3:=HB3.out.size
    clear x0 x1 pg3 pg4 g3 g4 g5 g6 a0
    generalize World.plus w2 xq=w3 at*
    go_wp2_with (at_builtin;go_loud (refine wpList_append_sl _ rfl _ _ 35 rfl (w.heap.size+1+1+1) 63 i0 (.agg #[.bool false,.int .i64 0,.float .f64 0]) 3 24 Tryz.underlying35 hi hiz0 hiz1 hiz2 rfl (by decide) _ k _ rfl ((row_below HO.out (HBR2.out.step HB3.out)).alloc _) (.slice (some ⟨w3.heap.size,0,none⟩) 1 1) 1 [.bool true,.int .i64 0,.float .f64 tv] rfl (SlAt.new w3 #[.bool true,.int .i64 0,.float .f64 tv] 63) (by simp [Value.oneCell']) (by unfold maxLen;omega) (by omega) (by simp;omega) ?_);intro v1 w5 hown1 hgrow1 hnb)
    go_roundw
    case rel=>
     refine ⟨k+1,hlt,by go_num,((NS2h.out.step HB3.out).step ((Below.refl _ _).new _)).grow ((row_below HO.out (HBR2.out.step HB3.out)).alloc _) hgrow1,by have:=hgrow1.size;simp only [World.size_alloc] at this;omega,by rw [HTK2.out];exact hown1,fun j y hj hy=> ?_⟩
     by_cases hjk:j<k
     ·exact HZ.out j y hjk hy
     ·obtain rfl:j=k:=by omega
      rw [HAT.out] at hy
      rw [←Option.some.inj hy]
    case measure=>simp [intOf];omega
  ·obtain rfl:k=LA:=by omega
   have htk:NO.take k=NO:=List.take_of_length_le (by rw [HNL.out,HN.out];exact Nat.le_refl _)
   have hz:=HZ.out
   have hE:firstE NO=0:=firstE_zero (fun x hx=>by
    obtain ⟨j,hj,rfl⟩:=List.mem_iff_getElem.1 hx
    exact hz j _ (by rw [HNL.out,HN.out] at hj;exact hj) (List.getElem?_eq_getElem hj))
   have hown:=HO.out
   rw [htk] at hown
   have hfl:(fstL NO).length=k:=by unfold fstL;rw [List.length_map,HNL.out,HN.out]
   have HOWN:=hid (show wr.ownsRow w.heap.size 63 3 _ (fstL NO).length ((fstL NO).flatMap NumD.cells) by rw [hfl];exact hown.base_le (by omega))
   have HE:=hid hE
   have q0:=cell_blk (i:=0) (x:= .slice aa k ac) HNS.out.q rfl
   obtain ⟨oo,oc,rfl,_⟩:=SlAt.shape (SlAt.own hown)
   clear htk hz hE hown hfl
   go_wp2
   go_ret2
   refine ⟨.slice oo k oc,?_,HNS.out.bel,.inl ⟨HE.out,HOWN.out⟩⟩
   rw [HE.out]
   rfl
theorem refNums_any (S:Nat→Prop) (D:Nat) (v:GrpV) (d:GroupD) (q:QryV) (dq:QryD) (vd vm:Value) (ds ms:List ByteArray) (g:Int) (w:World) (hd:StrsSl w vd ds) (hm:StrsSl w vm ms) (td:Texts ds) (tm:Texts ms) (hg:GrpN (fun _=>True) w v d) (gok:GrpOk d) (hsm:GSm d)
  (hq:QryIs w q dq) (hs:QSm dq) (hf:FilS S w D [.int .i64 q.kind,.string q.name,.slice q.wa q.wn q.wc,.int .i64 q.fr,.int .i64 q.till,.slice q.la q.ln q.lc] dq.wher) (hD:D≤900) (hcn:countN D dq.wher≤1000000000000):
  Calls Tryz.prog 34 #[.agg #[vd,vm,.int .i64 g],.agg q.cells,.agg v.cells] w (NumsPost (fstL (numsOf ds ms g dq.aggs d)) (numsErr ds ms g dq (flatN D 1 dq.wher) d) w):=by
 have HC:=fun W (h:Below w.heap.size w W)=>refCheck15_any S D q dq vd vm ds ms g W (hd.below h) (hm.below h) td tm (hq.all.below h).is hs (hf.below h) hD hcn
 by_cases h0:checkQ ds ms g dq (flatN D 1 dq.wher)=0
 ·by_cases hok:gOkB ms.length d=true
  ·exact refNums_go v d q dq _ vd vm ds ms g w hd hm td tm hg gok hsm hq.aggs hs.aggs HC (isOfB_parts (checkQ_typed h0)).2.1 h0 hok
  ·exact refNums_bad v d q dq _ vd vm ds ms g w hd hm hg hsm tm.1 HC h0 (by simpa using hok) _
 ·exact refNums_early v d q dq _ vd vm ds ms g w hd hm HC h0 _
end Go.Proofs.YtejleplhmkmegaaGreatDoor
