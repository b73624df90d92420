/- Texts joined: OsR. -/
import Derived.Test.YtejleplhmkmegaaGreatDoorOp
set_option linter.unusedVariables false
set_option linter.unusedSimpArgs false
namespace Go.Proofs.YtejleplhmkmegaaGreatDoor
set_option maxRecDepth 100000
open Go.ChangeShapes Go.WideShapes Go.ChangeAt Go.RowKit Go.Fl Go.ChangeMaps Go.MapKept
open Go.Maps (Keyed)
attribute [local go_sem] run_store_float run_equalIn_float
theorem grown_five {X w0 w1 w2 w3 w4 w5:World} {b:Nat} (hb:X.heap.size=b) (e:w0=X.alloc (.map #[] 0)) (h1:w0.grownBy w1 (some b)) (h2:w1.grownBy w2 (some b)) (h3:w2.grownBy w3 (some b)) (h4:w3.grownBy w4 (some b)) (h5:w4.grownBy w5 (some b)):Below X.heap.size X w5:=by
 subst e
 have z0:Below X.heap.size X (X.alloc (.map #[] 0)):=(Below.refl _ _).alloc (Nat.le_refl _) _
 have z1:=z0.grown h1 z0.size (fun r e=>by cases e;omega)
 have z2:=z1.grown h2 z1.size (fun r e=>by cases e;omega)
 have z3:=z2.grown h3 z2.size (fun r e=>by cases e;omega)
 have z4:=z3.grown h4 z3.size (fun r e=>by cases e;omega)
 exact z4.grown h5 z4.size (fun r e=>by cases e;omega)
theorem three_blk {w w1:World} {a b c:Array Value} {T U V:TypeId} (hb:Below (((w.alloc (.cells a T)).alloc (.cells b U)).alloc (.cells c V)).heap.size (((w.alloc (.cells a T)).alloc (.cells b U)).alloc (.cells c V)) w1):
  w1.heap[w.heap.size]? =some (.cells a T (0,0))∧w1.heap[w.heap.size+1]? =some (.cells b U (0,0))∧w1.heap[w.heap.size+1+1]? =some (.cells c V (0,0))∧Below w.heap.size w w1∧w.heap.size+3≤w1.heap.size:=by
 refine ⟨blk_below Bk hb,blk_below Bk hb,blk_below Bk hb,?_,?_⟩
 ·have h:Below w.heap.size w (((w.alloc (.cells a T)).alloc (.cells b U)).alloc (.cells c V)):=Gr
  exact h.trans (hb.mono h.size)
 ·have:=hb.size
  simp only [World.size_alloc] at this
  omega
theorem SlAt.new1 (w:World) (o:Obj) (cs:Array Value) (T:TypeId):SlAt ((w.alloc o).alloc (.cells cs T)) (.slice (some ⟨w.heap.size+1,0,none⟩) 1 1) 1 cs.size cs.toList:=by
 have h:=SlAt.new (w.alloc o) cs T
 rw [World.size_alloc] at h
 exact h
set_option maxHeartbeats 8000000 in
theorem nums_go (v:GrpV) (d:GroupD) (q:QryV) (dq:QryD) (L:List (Nat×FilD)) (vd vm:Value) (ds ms:List ByteArray) (g:Int) (w:World) (hd:StrsSl w vd ds) (hm:StrsSl w vm ms) (td:Texts ds) (tm:Texts ms) (hg:GrpN (fun _=>True) w v d) (gok:GrpOk d) (hsm:GSm d)
  (hq:AggsSl w (.slice q.aa q.an q.ac) dq.aggs) (hkd:∀a∈dq.aggs,I64 a.kind) (hql:dq.aggs.length≤1000)
  (HC:∀W,Below w.heap.size w W→Calls Tryz.prog 27 #[.agg #[vd,vm,.int .i64 g],.agg q.cells] W (IntPost (checkQ ds ms g dq L:Nat) W)) (hty:dq.aggs.all (typedB ds ms g)=true) (hne:checkQ ds ms g dq L=0) (hok:gOkB ms.length d=true) (hT:TypeR w):
  Calls Tryz.prog 28 #[.agg #[vd,vm,.int .i64 g],.agg q.cells,.agg v.cells] w (NumsPost (fstL (numsOf ds ms g dq.aggs d)) (numsErr ds ms g dq L d) w):=by
 obtain ⟨i0,hi,hiz0,hiz1,hiz2⟩:=info_parts info_num
 have hmake:∀X,(Instr.makeMap 114 none).run Tryz.prog X= .ok (.map (some X.heap.size)) (X.alloc (.map #[] 0)):=fun X=>by first|exact run_makeMap X _ _ _ Tryz.underlying114|exact run_makeMap _ _|rfl
 unfold numsErr
 rw [if_pos hne,if_pos hok]
 rw [hne] at HC
 replace HC:=hid HC
 have HM:=hid (fun x W (h:Below w.heap.size w W)=>metric_any vd vm ds ms g x W (hd.below h) (hm.below h) td tm)
 have hokp:d.sums.length=ms.length∧d.mins.length=ms.length∧d.maxs.length=ms.length∧1≤d.n∧d.n≤13000000000:=by
  unfold gOkB at hok
  simp at hok
  omega
 obtain ⟨o1,o2,o3,o4,o5⟩:=hokp
 obtain ⟨p0,_⟩:=SlAt.parts hg.sums.sl
 obtain ⟨p1,_⟩:=SlAt.parts hg.mins.sl
 obtain ⟨p2,_⟩:=SlAt.parts hg.maxs.sl
 have p3:=hg.n
 have HG:=hid hg;have HGO:=hid gok;have HGS:=hid hsm
 have HOL:=hid (⟨o1,o2,o3⟩:_∧_∧_)
 obtain ⟨aoq,capq,heq,hq1,hq2,hq3,hqA⟩:=agg_parts hq
 have HQA:=hid hqA;have HTY:=hid hty;have HKD:=hid hkd;have HTR:=hid hT
 obtain ⟨NO,hNO⟩:∃NO,numsOf ds ms g dq.aggs d=NO:=⟨_,rfl⟩
 have HNO:=hid hNO
 have HNL:Hid (NO.length=dq.aggs.length):=by unfold Hid;rw [←hNO];simp [numsOf]
 rw [hNO]
 obtain ⟨ad,cd,rfl,_,_,_⟩:=SlAt.shape hd
 obtain ⟨am',cm,rfl,_,_,_⟩:=SlAt.shape hm
 have hvn:v.sn=ms.length∧v.mn=ms.length∧v.xn=ms.length:=⟨by omega,by omega,by omega⟩
 obtain ⟨e1,e2,e3⟩:=hvn
 rw [←p3] at o4 o5
 have htm:=tm.1
 unfold maxLen at hq2
 obtain ⟨N,hN⟩:∃N,dq.aggs.length=N:=⟨_,rfl⟩
 have HN:=hid hN
 rw [hN] at heq hq1 hql
 simp only [Value.slice.injEq] at heq
 clear hd hm td tm hg gok hsm hq hkd hty hok hT hNO hqA p0 p1 p2 p3 o1 o2 o3 hne hN hq3
 obtain ⟨st,tm2,ka,kn,kc,n,sa,sn,sc,ma,mn,mc,xa,xn,xc⟩:=v
 dsimp only [GrpV.cells,GrpV.list] at*
 subst e1 e2 e3
 obtain ⟨aa,LA,ac,ba,LB,bc,mode,sa',LS,sc',every,kind,name,wa,wn,wk,fr,till,la,ln,lc,ha,LH,hc,oa,LO,oc,limit⟩:=q
 dsimp only [QryV.cells] at*
 obtain ⟨rfl,rfl,rfl⟩:=heq
 have o4':¬n<1:=by omega
 have o5':¬(13000000000:Int)<n:=by omega
 have HX3:Hid (∀w1,Below (((w.alloc (.cells #[.slice ad ds.length cd,.slice am' ms.length cm,.int .i64 g] 45)).alloc (.cells #[.slice aa LA ac,.slice ba LB bc,.int .i64 mode,.slice sa' LS sc',.int .i64 every,.int .i64 kind,.string name,.slice wa wn wk,.int .i64 fr,.int .i64 till,.slice la ln lc,.slice ha LH hc,.slice oa LO oc,.int .i64 limit] 33)).alloc (.cells #[.int .i64 st,.int .i64 tm2,.slice ka kn kc,.int .i64 n,.slice sa ms.length sc,.slice ma ms.length mc,.slice xa ms.length xc] 79)).heap.size (((w.alloc (.cells #[.slice ad ds.length cd,.slice am' ms.length cm,.int .i64 g] 45)).alloc (.cells #[.slice aa LA ac,.slice ba LB bc,.int .i64 mode,.slice sa' LS sc',.int .i64 every,.int .i64 kind,.string name,.slice wa wn wk,.int .i64 fr,.int .i64 till,.slice la ln lc,.slice ha LH hc,.slice oa LO oc,.int .i64 limit] 33)).alloc (.cells #[.int .i64 st,.int .i64 tm2,.slice ka kn kc,.int .i64 n,.slice sa ms.length sc,.slice ma ms.length mc,.slice xa ms.length xc] 79)) w1→w1.heap[w.heap.size]? =some (.cells #[.slice ad ds.length cd,.slice am' ms.length cm,.int .i64 g] 45 (0,0))∧w1.heap[w.heap.size+1]? =some (.cells #[.slice aa LA ac,.slice ba LB bc,.int .i64 mode,.slice sa' LS sc',.int .i64 every,.int .i64 kind,.string name,.slice wa wn wk,.int .i64 fr,.int .i64 till,.slice la ln lc,.slice ha LH hc,.slice oa LO oc,.int .i64 limit] 33 (0,0))∧w1.heap[w.heap.size+1+1]? =some (.cells #[.int .i64 st,.int .i64 tm2,.slice ka kn kc,.int .i64 n,.slice sa ms.length sc,.slice ma ms.length mc,.slice xa ms.length xc] 79 (0,0))∧Below w.heap.size w w1∧w.heap.size+3≤w1.heap.size):=fun w1 hb1=>three_blk hb1
 go_enter Tryz.func28,Tryz.ntmps28
 go_wp2_with (first
  |(go_at_call 27;go_loud ((with_reducible refine (HC.out _ Gr).mono ?_);rintro e w1 ⟨rfl,hb1⟩;have HX4:=hid (HX3.out _ hb1);obtain ⟨hc1,hf1,hk1,hz1⟩:=bcell3 hb1;(try simp only [World.size_alloc,World.size_drew] at hz1);have:w.heap.size<w1.heap.size:=(by omega);have:w.heap.size+1<w1.heap.size:=(by omega);have:w.heap.size+1+1<w1.heap.size:=(by omega)))
  |(refine wpList_insert_own _ rfl _ _ _ 114 rfl 3 110 (Maps.int_keyed Tryz.underlying3) Tryz.underlying114 heldR w1.heap.size 4 _ rfl hown4 (by unfold maxLen;omega) _ _ (litI 5) rfl rfl (by first|rfl|kernel_rfl|decide) (.held (fnV 63)) [] rfl ?_;intro m5 hown5 hg5;have hz5:=grown_five rfl rfl hg1 hg2 hg3 hg4 hg5;have hzz:=hz5;have NS:=hid (show NSt w #[.slice ad ds.length cd,.slice am' ms.length cm,.int .i64 g] #[.int .i64 st,.int .i64 tm2,.slice ka kn kc,.int .i64 n,.slice sa ms.length sc,.slice ma ms.length mc,.slice xa ms.length xc] w1.heap.size m5 from ⟨blk_below HX4.out.1 hz5,blk_below HX4.out.2.2.1 hz5,hown5,HX4.out.2.2.2.2,HX4.out.2.2.2.1.step hz5⟩);clear hz5 hown1 hown2 hown3 hown4 hown5 hg1 hg2 hg3 hg4 hg5 hc1 hf1 hk1;have c0:=cell_step (cell_blk (i:=0) (x:= .slice aa LA ac) HX4.out.2.1 rfl) (show Below w1.heap.size w1 m5 from hzz);clear hzz)
  |(refine wpList_insert_own _ rfl _ _ _ 114 rfl 3 110 (Maps.int_keyed Tryz.underlying3) Tryz.underlying114 heldR w1.heap.size 3 _ rfl hown3 (by unfold maxLen;omega) _ _ (litI 4) rfl rfl (by first|rfl|kernel_rfl|decide) (.held (fnV 62)) [] rfl ?_;intro m4 hown4 hg4)
  |(refine wpList_insert_own _ rfl _ _ _ 114 rfl 3 110 (Maps.int_keyed Tryz.underlying3) Tryz.underlying114 heldR w1.heap.size 2 _ rfl hown2 (by unfold maxLen;omega) _ _ (litI 3) rfl rfl (by first|rfl|kernel_rfl|decide) (.held (fnV 61)) [] rfl ?_;intro m3 hown3 hg3)
  |(refine wpList_insert_own _ rfl _ _ _ 114 rfl 3 110 (Maps.int_keyed Tryz.underlying3) Tryz.underlying114 heldR w1.heap.size 1 _ rfl hown1 (by unfold maxLen;omega) _ _ (litI 2) rfl rfl (by first|rfl|kernel_rfl|decide) (.held (fnV 60)) [] rfl ?_;intro m2 hown2 hg2)
  |(refine wpList_insert_own _ rfl _ _ _ 114 rfl 3 110 (Maps.int_keyed Tryz.underlying3) Tryz.underlying114 heldR w1.heap.size 0 _ rfl (World.ownsMap_made w1 Tryz.prog 3 heldR) (by unfold maxLen;omega) _ _ (litI 1) rfl rfl (by first|rfl|kernel_rfl|decide) (.held (fnV 59)) [] rfl ?_;intro m1 hown1 hg1))
 have hlt5:=NS.out.m.lt
 clear HC HX3 HX4 hmake hz1
 go_loopw [11,13,14,15,16,17,61] (fun o _ _ _ _ _ iv wr=>∃k:Nat,k≤LA∧iv= .int .i64 (k:Int)∧NSt w #[.slice ad ds.length cd,.slice am' ms.length cm,.int .i64 g] #[.int .i64 st,.int .i64 tm2,.slice ka kn kc,.int .i64 n,.slice sa ms.length sc,.slice ma ms.length mc,.slice xa ms.length xc] w1.heap.size wr∧wr.ownsRow (w1.heap.size+1) 63 3 o k ((fstL (NO.take k)).flatMap NumD.cells)∧∀j y,j<k→NO[j]? =some y→y.2=0) (fun _ _ _ _ _ _ iv _=>LA-(intOf iv).toNat)
 case atStart=>exact ⟨0,Nat.zero_le _,rfl,NS.out,(show m5.ownsRow (w1.heap.size+1) 63 3 _ 0 [] from World.ownsRow_nil _ _ _ _),fun j y h=>absurd h (Nat.not_lt_zero j)⟩
 case round=>
  obtain ⟨k,hk,rfl,hns,hown,hz⟩:=hrel
  have HNS:=hid hns;have HO:=hid hown;have HZ:=hid hz
  have hk0:(0:Int)≤(k:Int):=Int.natCast_nonneg _
  have hMlt:=hns.m.lt
  have hwM:=hns.lt
  clear hns hown hz c0
  by_cases hlt:k<LA
  ·have hlen:k<dq.aggs.length:=by rw [HN.out];exact hlt
   have hltI:(k:Int)<(LA:Int):=by omega
   obtain ⟨b,off,rfl,hc⟩:=HQA.out (by omega)
   obtain ⟨c0,c1⟩:=hc k hlen
   have hbw:=HNS.out.bel
   replace c0:=cell_step c0 hbw;replace c1:=cell_step c1 hbw
   have hat:NO[k]? =some (numG d (atOf ds ms g dq.aggs[k]) dq.aggs[k].kind):=by
    rw [←HNO.out]
    unfold numsOf
    rw [List.getElem?_map,List.getElem?_eq_getElem hlen]
    rfl
   have hty:=(List.all_eq_true.1 HTY.out) _ (List.getElem_mem hlen)
   have hkd:=HKD.out _ (List.getElem_mem hlen)
   have HMM:=hid (HM.out dq.aggs[k].metric)
   have HTK:Hid (NO.take (k+1)=NO.take k++[numG d (atOf ds ms g dq.aggs[k]) dq.aggs[k].kind]):=by
    obtain ⟨h1,h2⟩:=List.getElem?_eq_some_iff.1 hat
    unfold Hid
    rw [List.take_succ_eq_append_getElem h1,h2]
   unfold typedB at hty
   have hpl:=place_nat (rightS ds ms g) (Lib.idxOfS ms dq.aggs[k].metric)
   have hplt:dq.aggs[k].kind≠1→(placeI (rightS ds ms g) (Lib.idxOfS ms dq.aggs[k].metric)).toNat<ms.length∧1<dq.aggs[k].kind∧dq.aggs[k].kind≤5:=fun h=>by
    rw [if_neg h] at hty
    simp only [Bool.and_eq_true,decide_eq_true_eq] at hty
    exact ⟨place_lt hty.1,hty.2⟩
   rw [hpl] at HMM
   have HAT:=hid hat
   unfold atOf at HAT HTK
   obtain ⟨i,hi2⟩:∃i,(placeI (rightS ds ms g) (Lib.idxOfS ms dq.aggs[k].metric)).toNat=i:=⟨_,rfl⟩
   rw [hi2] at HMM HAT HTK hplt
   generalize placeB (rightS ds ms g) (Lib.idxOfS ms dq.aggs[k].metric)=pb at*
   clear hty hpl hi2 hat hc
   generalize dq.aggs[k].kind=kd at*;generalize dq.aggs[k].metric=mt at*
   have hkc:kd=1∨(i<ms.length∧(kd=2∨kd=3∨kd=4∨kd=5)):=by
    by_cases h:kd=1
    ·exact .inl h
    ·have:=hplt h
     omega
   clear hplt
   have s0:=cell_blk (i:=0) (x:= .slice ad ds.length cd) HNS.out.s rfl;have s1:=cell_blk (i:=1) (x:= .slice am' ms.length cm) HNS.out.s rfl;have s2:=cell_blk (i:=2) (x:= .int .i64 g) HNS.out.s rfl
   have hsw:w.heap.size<wr.heap.size:=by omega
   have hsw2:w.heap.size+1+1<wr.heap.size:=by omega
   rcases hkc with rfl|⟨hil,rfl|rfl|rfl|rfl⟩
   ·have HK:=hid (fun W (h:Below w.heap.size w W)=>(show Calls Tryz.prog 59 #[.agg #[.int .i64 st,.int .i64 tm2,.slice ka kn kc,.int .i64 n,.slice sa ms.length sc,.slice ma ms.length mc,.slice xa ms.length xc,.int .i64 (i:Int)]] W (NumPost (numG d i 1) W) from by
     have:=count_gany _ d (i:Int) W (HG.out.below h)
     dsimp only [GrpV.list,List.cons_append,List.nil_append] at this
     exact this))
    have HLK:=hid (fun (W:World) (h:W.ownsMap Tryz.prog 3 heldR w1.heap.size 5 tellsD)=>tells_look (g:=59) hkd h (by rw [tells_at];rfl))
    generalize numG d i 1=R at*
    obtain ⟨⟨rn,rb,rf⟩,er⟩:=R
    unfold NumPost at HK
    dsimp only at HK
    by_cases her:er=0
    ·subst her
     have HTK2:Hid ((fstL (NO.take (k+1))).flatMap NumD.cells=(fstL (NO.take k)).flatMap NumD.cells++[.bool rb,.int .i64 rn,.float .f64 rf]):=by
      unfold Hid
      rw [HTK.out]
      unfold fstL
      rw [List.map_append,List.flatMap_append]
      rfl
     have HK0:=hid (fun W h=>show Calls Tryz.prog 59 _ W (fun e w'=>e= .returned (.tuple #[.agg #[.bool rb,.int .i64 rn,.float .f64 rf],.nilIface])∧Below W.heap.size W w') from HK.out W h)
     go_wp2_with (first
      |(go_at_call 64;go_loud ((with_reducible refine (HMM.out _ (HNS.out.bel.new _)).mono ?_);rintro e w2 ⟨rfl,hb2⟩;have hbr2:Below wr.heap.size wr w2:=Gr;have NS2:=HNS.out.step hbr2;have NS2h:=hid NS2;have g0:=cell_blk (i:=0) (x:= .int .i64 st) NS2.g rfl;have g1:=cell_blk (i:=1) (x:= .int .i64 tm2) NS2.g rfl;have g2:=cell_blk (i:=2) (x:= .slice ka kn kc) NS2.g rfl;have g3:=cell_blk (i:=3) (x:= .int .i64 n) NS2.g rfl;have g4:=cell_blk (i:=4) (x:= .slice sa ms.length sc) NS2.g rfl;have g5:=cell_blk (i:=5) (x:= .slice ma ms.length mc) NS2.g rfl;have g6:=cell_blk (i:=6) (x:= .slice xa ms.length xc) NS2.g rfl;have a0:w2.cell? ⟨wr.heap.size,0,none⟩=some (.int .i64 1):=cell_step (cell_blk (heap_at rfl) rfl) hb2;have hrun:=HLK.out w2 NS2.m;have HBR2:=hid hbr2;have hz2:=hbr2.size;clear NS2 hbr2 hb2))
      |(go_at_call 59;go_loud ((with_reducible refine (HK0.out w2 NS2h.out.bel).mono ?_);rintro e w3 ⟨rfl,hb3⟩;have HB3:=hid hb3;have hz3:=hb3.size;clear hb3))
      |(at_builtin;go_loud (refine wpList_append_sl _ rfl _ _ 35 rfl (w1.heap.size+1) 63 i0 (.agg #[.bool false,.int .i64 0,.float .f64 0]) 3 24 Tryz.underlying35 hi hiz0 hiz1 hiz2 rfl (by decide) _ k _ rfl (((row_below HO.out (HBR2.out.step HB3.out)).alloc _).alloc _) (.slice (some ⟨w3.heap.size+1,0,none⟩) 1 1) 1 [.bool rb,.int .i64 rn,.float .f64 rf] rfl (SlAt.new1 w3 _ #[.bool rb,.int .i64 rn,.float .f64 rf] 63) (by simp [Value.oneCell']) (by unfold maxLen;omega) (by omega) (by simp;omega) ?_);intro v1 w5 hown1 hgrow1 hnb))
     go_roundw
     case rel=>
      refine ⟨k+1,hlt,by go_num,((NS2h.out.step HB3.out).step (((Below.refl _ _).new _).new _)).grow (((row_below HO.out (HBR2.out.step HB3.out)).alloc _).alloc _) hgrow1,by rw [HTK2.out];exact hown1,fun j y hj hy=> ?_⟩
      by_cases hjk:j<k
      ·exact HZ.out j y hjk hy
      ·obtain rfl:j=k:=by omega
       rw [HAT.out] at hy
       rw [←Option.some.inj hy]
     case measure=>simp [intOf];omega
    ·have HE:Hid (firstE NO=er):=firstE_at HAT.out (fun j y hj hy=>HZ.out j y hj hy) her
     have HER:=hid her
     have HK0:=hid (fun W h=>show Calls Tryz.prog 59 _ W (fun e w'=>e= .returned (.tuple #[.agg #[.bool rb,.int .i64 rn,.float .f64 rf],refV er])∧Below W.heap.size W w') from (HK.out W h).mono fun e w' ⟨h1,h2⟩=>⟨by rw [h1];unfold errG;rw [if_neg her],h2⟩)
     go_wp2_with (first
      |(go_at_call 64;go_loud ((with_reducible refine (HMM.out _ (HNS.out.bel.new _)).mono ?_);rintro e w2 ⟨rfl,hb2⟩;have hbr2:Below wr.heap.size wr w2:=Gr;have NS2:=HNS.out.step hbr2;have NS2h:=hid NS2;have g0:=cell_blk (i:=0) (x:= .int .i64 st) NS2.g rfl;have g1:=cell_blk (i:=1) (x:= .int .i64 tm2) NS2.g rfl;have g2:=cell_blk (i:=2) (x:= .slice ka kn kc) NS2.g rfl;have g3:=cell_blk (i:=3) (x:= .int .i64 n) NS2.g rfl;have g4:=cell_blk (i:=4) (x:= .slice sa ms.length sc) NS2.g rfl;have g5:=cell_blk (i:=5) (x:= .slice ma ms.length mc) NS2.g rfl;have g6:=cell_blk (i:=6) (x:= .slice xa ms.length xc) NS2.g rfl;have a0:w2.cell? ⟨wr.heap.size,0,none⟩=some (.int .i64 1):=cell_step (cell_blk (heap_at rfl) rfl) hb2;have hrun:=HLK.out w2 NS2.m;have HBR2:=hid hbr2;have hz2:=hbr2.size;clear NS2 hbr2 hb2))
      |(go_at_call 59;go_loud ((with_reducible refine (HK0.out w2 NS2h.out.bel).mono ?_);rintro e w3 ⟨rfl,hb3⟩;have HB3:=hid hb3;have hz3:=hb3.size;clear hb3))
      |(go_at_call 65;go_loud ((with_reducible refine (gtold_any er _ (HTR.out.below ((NS2h.out.bel.step HB3.out).new _))).mono ?_);rintro e w4 ⟨rfl,hb4⟩)))
     go_ret2
     exact ⟨.slice none 0 0,by rw [HE.out];rfl,(NS2h.out.bel.step HB3.out).step (((Below.refl _ _).new _).step hb4),.inr ⟨by rw [HE.out];exact HER.out,rfl⟩⟩
   ·have HK:=hid (fun W (h:Below w.heap.size w W)=>(show Calls Tryz.prog 60 #[.agg #[.int .i64 st,.int .i64 tm2,.slice ka kn kc,.int .i64 n,.slice sa ms.length sc,.slice ma ms.length mc,.slice xa ms.length xc,.int .i64 (i:Int)]] W (NumPost (numG d i 2) W) from by
     have:=sum_gany _ d i W (HG.out.below h) (by rw [HOL.out.1];exact hil) HGS.out.sums
     dsimp only [GrpV.list,List.cons_append,List.nil_append] at this
     exact this))
    have HLK:=hid (fun (W:World) (h:W.ownsMap Tryz.prog 3 heldR w1.heap.size 5 tellsD)=>tells_look (g:=60) hkd h (by rw [tells_at];rfl))
    generalize numG d i 2=R at*
    obtain ⟨⟨rn,rb,rf⟩,er⟩:=R
    unfold NumPost at HK
    dsimp only at HK
    by_cases her:er=0
    ·subst her
     have HTK2:Hid ((fstL (NO.take (k+1))).flatMap NumD.cells=(fstL (NO.take k)).flatMap NumD.cells++[.bool rb,.int .i64 rn,.float .f64 rf]):=by
      unfold Hid
      rw [HTK.out]
      unfold fstL
      rw [List.map_append,List.flatMap_append]
      rfl
     have HK0:=hid (fun W h=>show Calls Tryz.prog 60 _ W (fun e w'=>e= .returned (.tuple #[.agg #[.bool rb,.int .i64 rn,.float .f64 rf],.nilIface])∧Below W.heap.size W w') from HK.out W h)
     go_wp2_with (first
      |(go_at_call 64;go_loud ((with_reducible refine (HMM.out _ (HNS.out.bel.new _)).mono ?_);rintro e w2 ⟨rfl,hb2⟩;have hbr2:Below wr.heap.size wr w2:=Gr;have NS2:=HNS.out.step hbr2;have NS2h:=hid NS2;have g0:=cell_blk (i:=0) (x:= .int .i64 st) NS2.g rfl;have g1:=cell_blk (i:=1) (x:= .int .i64 tm2) NS2.g rfl;have g2:=cell_blk (i:=2) (x:= .slice ka kn kc) NS2.g rfl;have g3:=cell_blk (i:=3) (x:= .int .i64 n) NS2.g rfl;have g4:=cell_blk (i:=4) (x:= .slice sa ms.length sc) NS2.g rfl;have g5:=cell_blk (i:=5) (x:= .slice ma ms.length mc) NS2.g rfl;have g6:=cell_blk (i:=6) (x:= .slice xa ms.length xc) NS2.g rfl;have a0:w2.cell? ⟨wr.heap.size,0,none⟩=some (.int .i64 2):=cell_step (cell_blk (heap_at rfl) rfl) hb2;have hrun:=HLK.out w2 NS2.m;have HBR2:=hid hbr2;have hz2:=hbr2.size;clear NS2 hbr2 hb2))
      |(go_at_call 60;go_loud ((with_reducible refine (HK0.out w2 NS2h.out.bel).mono ?_);rintro e w3 ⟨rfl,hb3⟩;have HB3:=hid hb3;have hz3:=hb3.size;clear hb3))
      |(at_builtin;go_loud (refine wpList_append_sl _ rfl _ _ 35 rfl (w1.heap.size+1) 63 i0 (.agg #[.bool false,.int .i64 0,.float .f64 0]) 3 24 Tryz.underlying35 hi hiz0 hiz1 hiz2 rfl (by decide) _ k _ rfl (((row_below HO.out (HBR2.out.step HB3.out)).alloc _).alloc _) (.slice (some ⟨w3.heap.size+1,0,none⟩) 1 1) 1 [.bool rb,.int .i64 rn,.float .f64 rf] rfl (SlAt.new1 w3 _ #[.bool rb,.int .i64 rn,.float .f64 rf] 63) (by simp [Value.oneCell']) (by unfold maxLen;omega) (by omega) (by simp;omega) ?_);intro v1 w5 hown1 hgrow1 hnb))
     go_roundw
     case rel=>
      refine ⟨k+1,hlt,by go_num,((NS2h.out.step HB3.out).step (((Below.refl _ _).new _).new _)).grow (((row_below HO.out (HBR2.out.step HB3.out)).alloc _).alloc _) hgrow1,by rw [HTK2.out];exact hown1,fun j y hj hy=> ?_⟩
      by_cases hjk:j<k
      ·exact HZ.out j y hjk hy
      ·obtain rfl:j=k:=by omega
       rw [HAT.out] at hy
       rw [←Option.some.inj hy]
     case measure=>simp [intOf];omega
    ·have HE:Hid (firstE NO=er):=firstE_at HAT.out (fun j y hj hy=>HZ.out j y hj hy) her
     have HER:=hid her
     have HK0:=hid (fun W h=>show Calls Tryz.prog 60 _ W (fun e w'=>e= .returned (.tuple #[.agg #[.bool rb,.int .i64 rn,.float .f64 rf],refV er])∧Below W.heap.size W w') from (HK.out W h).mono fun e w' ⟨h1,h2⟩=>⟨by rw [h1];unfold errG;rw [if_neg her],h2⟩)
     go_wp2_with (first
      |(go_at_call 64;go_loud ((with_reducible refine (HMM.out _ (HNS.out.bel.new _)).mono ?_);rintro e w2 ⟨rfl,hb2⟩;have hbr2:Below wr.heap.size wr w2:=Gr;have NS2:=HNS.out.step hbr2;have NS2h:=hid NS2;have g0:=cell_blk (i:=0) (x:= .int .i64 st) NS2.g rfl;have g1:=cell_blk (i:=1) (x:= .int .i64 tm2) NS2.g rfl;have g2:=cell_blk (i:=2) (x:= .slice ka kn kc) NS2.g rfl;have g3:=cell_blk (i:=3) (x:= .int .i64 n) NS2.g rfl;have g4:=cell_blk (i:=4) (x:= .slice sa ms.length sc) NS2.g rfl;have g5:=cell_blk (i:=5) (x:= .slice ma ms.length mc) NS2.g rfl;have g6:=cell_blk (i:=6) (x:= .slice xa ms.length xc) NS2.g rfl;have a0:w2.cell? ⟨wr.heap.size,0,none⟩=some (.int .i64 2):=cell_step (cell_blk (heap_at rfl) rfl) hb2;have hrun:=HLK.out w2 NS2.m;have HBR2:=hid hbr2;have hz2:=hbr2.size;clear NS2 hbr2 hb2))
      |(go_at_call 60;go_loud ((with_reducible refine (HK0.out w2 NS2h.out.bel).mono ?_);rintro e w3 ⟨rfl,hb3⟩;have HB3:=hid hb3;have hz3:=hb3.size;clear hb3))
      |(go_at_call 65;go_loud ((with_reducible refine (gtold_any er _ (HTR.out.below ((NS2h.out.bel.step HB3.out).new _))).mono ?_);rintro e w4 ⟨rfl,hb4⟩)))
     go_ret2
     exact ⟨.slice none 0 0,by rw [HE.out];rfl,(NS2h.out.bel.step HB3.out).step (((Below.refl _ _).new _).step hb4),.inr ⟨by rw [HE.out];exact HER.out,rfl⟩⟩
   ·have HK:=hid (fun W (h:Below w.heap.size w W)=>(show Calls Tryz.prog 61 #[.agg #[.int .i64 st,.int .i64 tm2,.slice ka kn kc,.int .i64 n,.slice sa ms.length sc,.slice ma ms.length mc,.slice xa ms.length xc,.int .i64 (i:Int)]] W (NumPost (numG d i 3) W) from by
     have:=least_gany _ d i W (HG.out.below h) (by rw [HOL.out.2.1];exact hil) HGS.out.mins
     dsimp only [GrpV.list,List.cons_append,List.nil_append] at this
     exact this))
    have HLK:=hid (fun (W:World) (h:W.ownsMap Tryz.prog 3 heldR w1.heap.size 5 tellsD)=>tells_look (g:=61) hkd h (by rw [tells_at];rfl))
    generalize numG d i 3=R at*
    obtain ⟨⟨rn,rb,rf⟩,er⟩:=R
    unfold NumPost at HK
    dsimp only at HK
    by_cases her:er=0
    ·subst her
     have HTK2:Hid ((fstL (NO.take (k+1))).flatMap NumD.cells=(fstL (NO.take k)).flatMap NumD.cells++[.bool rb,.int .i64 rn,.float .f64 rf]):=by
      unfold Hid
      rw [HTK.out]
      unfold fstL
      rw [List.map_append,List.flatMap_append]
      rfl
     have HK0:=hid (fun W h=>show Calls Tryz.prog 61 _ W (fun e w'=>e= .returned (.tuple #[.agg #[.bool rb,.int .i64 rn,.float .f64 rf],.nilIface])∧Below W.heap.size W w') from HK.out W h)
     go_wp2_with (first
      |(go_at_call 64;go_loud ((with_reducible refine (HMM.out _ (HNS.out.bel.new _)).mono ?_);rintro e w2 ⟨rfl,hb2⟩;have hbr2:Below wr.heap.size wr w2:=Gr;have NS2:=HNS.out.step hbr2;have NS2h:=hid NS2;have g0:=cell_blk (i:=0) (x:= .int .i64 st) NS2.g rfl;have g1:=cell_blk (i:=1) (x:= .int .i64 tm2) NS2.g rfl;have g2:=cell_blk (i:=2) (x:= .slice ka kn kc) NS2.g rfl;have g3:=cell_blk (i:=3) (x:= .int .i64 n) NS2.g rfl;have g4:=cell_blk (i:=4) (x:= .slice sa ms.length sc) NS2.g rfl;have g5:=cell_blk (i:=5) (x:= .slice ma ms.length mc) NS2.g rfl;have g6:=cell_blk (i:=6) (x:= .slice xa ms.length xc) NS2.g rfl;have a0:w2.cell? ⟨wr.heap.size,0,none⟩=some (.int .i64 3):=cell_step (cell_blk (heap_at rfl) rfl) hb2;have hrun:=HLK.out w2 NS2.m;have HBR2:=hid hbr2;have hz2:=hbr2.size;clear NS2 hbr2 hb2))
      |(go_at_call 61;go_loud ((with_reducible refine (HK0.out w2 NS2h.out.bel).mono ?_);rintro e w3 ⟨rfl,hb3⟩;have HB3:=hid hb3;have hz3:=hb3.size;clear hb3))
      |(at_builtin;go_loud (refine wpList_append_sl _ rfl _ _ 35 rfl (w1.heap.size+1) 63 i0 (.agg #[.bool false,.int .i64 0,.float .f64 0]) 3 24 Tryz.underlying35 hi hiz0 hiz1 hiz2 rfl (by decide) _ k _ rfl (((row_below HO.out (HBR2.out.step HB3.out)).alloc _).alloc _) (.slice (some ⟨w3.heap.size+1,0,none⟩) 1 1) 1 [.bool rb,.int .i64 rn,.float .f64 rf] rfl (SlAt.new1 w3 _ #[.bool rb,.int .i64 rn,.float .f64 rf] 63) (by simp [Value.oneCell']) (by unfold maxLen;omega) (by omega) (by simp;omega) ?_);intro v1 w5 hown1 hgrow1 hnb))
     go_roundw
     case rel=>
      refine ⟨k+1,hlt,by go_num,((NS2h.out.step HB3.out).step (((Below.refl _ _).new _).new _)).grow (((row_below HO.out (HBR2.out.step HB3.out)).alloc _).alloc _) hgrow1,by rw [HTK2.out];exact hown1,fun j y hj hy=> ?_⟩
      by_cases hjk:j<k
      ·exact HZ.out j y hjk hy
      ·obtain rfl:j=k:=by omega
       rw [HAT.out] at hy
       rw [←Option.some.inj hy]
     case measure=>simp [intOf];omega
    ·have HE:Hid (firstE NO=er):=firstE_at HAT.out (fun j y hj hy=>HZ.out j y hj hy) her
     have HER:=hid her
     have HK0:=hid (fun W h=>show Calls Tryz.prog 61 _ W (fun e w'=>e= .returned (.tuple #[.agg #[.bool rb,.int .i64 rn,.float .f64 rf],refV er])∧Below W.heap.size W w') from (HK.out W h).mono fun e w' ⟨h1,h2⟩=>⟨by rw [h1];unfold errG;rw [if_neg her],h2⟩)
     go_wp2_with (first
      |(go_at_call 64;go_loud ((with_reducible refine (HMM.out _ (HNS.out.bel.new _)).mono ?_);rintro e w2 ⟨rfl,hb2⟩;have hbr2:Below wr.heap.size wr w2:=Gr;have NS2:=HNS.out.step hbr2;have NS2h:=hid NS2;have g0:=cell_blk (i:=0) (x:= .int .i64 st) NS2.g rfl;have g1:=cell_blk (i:=1) (x:= .int .i64 tm2) NS2.g rfl;have g2:=cell_blk (i:=2) (x:= .slice ka kn kc) NS2.g rfl;have g3:=cell_blk (i:=3) (x:= .int .i64 n) NS2.g rfl;have g4:=cell_blk (i:=4) (x:= .slice sa ms.length sc) NS2.g rfl;have g5:=cell_blk (i:=5) (x:= .slice ma ms.length mc) NS2.g rfl;have g6:=cell_blk (i:=6) (x:= .slice xa ms.length xc) NS2.g rfl;have a0:w2.cell? ⟨wr.heap.size,0,none⟩=some (.int .i64 3):=cell_step (cell_blk (heap_at rfl) rfl) hb2;have hrun:=HLK.out w2 NS2.m;have HBR2:=hid hbr2;have hz2:=hbr2.size;clear NS2 hbr2 hb2))
      |(go_at_call 61;go_loud ((with_reducible refine (HK0.out w2 NS2h.out.bel).mono ?_);rintro e w3 ⟨rfl,hb3⟩;have HB3:=hid hb3;have hz3:=hb3.size;clear hb3))
      |(go_at_call 65;go_loud ((with_reducible refine (gtold_any er _ (HTR.out.below ((NS2h.out.bel.step HB3.out).new _))).mono ?_);rintro e w4 ⟨rfl,hb4⟩)))
     go_ret2
     exact ⟨.slice none 0 0,by rw [HE.out];rfl,(NS2h.out.bel.step HB3.out).step (((Below.refl _ _).new _).step hb4),.inr ⟨by rw [HE.out];exact HER.out,rfl⟩⟩
   ·have HK:=hid (fun W (h:Below w.heap.size w W)=>(show Calls Tryz.prog 62 #[.agg #[.int .i64 st,.int .i64 tm2,.slice ka kn kc,.int .i64 n,.slice sa ms.length sc,.slice ma ms.length mc,.slice xa ms.length xc,.int .i64 (i:Int)]] W (NumPost (numG d i 4) W) from by
     have:=most_gany _ d i W (HG.out.below h) (by rw [HOL.out.2.2];exact hil) HGS.out.maxs
     dsimp only [GrpV.list,List.cons_append,List.nil_append] at this
     exact this))
    have HLK:=hid (fun (W:World) (h:W.ownsMap Tryz.prog 3 heldR w1.heap.size 5 tellsD)=>tells_look (g:=62) hkd h (by rw [tells_at];rfl))
    generalize numG d i 4=R at*
    obtain ⟨⟨rn,rb,rf⟩,er⟩:=R
    unfold NumPost at HK
    dsimp only at HK
    by_cases her:er=0
    ·subst her
     have HTK2:Hid ((fstL (NO.take (k+1))).flatMap NumD.cells=(fstL (NO.take k)).flatMap NumD.cells++[.bool rb,.int .i64 rn,.float .f64 rf]):=by
      unfold Hid
      rw [HTK.out]
      unfold fstL
      rw [List.map_append,List.flatMap_append]
      rfl
     have HK0:=hid (fun W h=>show Calls Tryz.prog 62 _ W (fun e w'=>e= .returned (.tuple #[.agg #[.bool rb,.int .i64 rn,.float .f64 rf],.nilIface])∧Below W.heap.size W w') from HK.out W h)
     go_wp2_with (first
      |(go_at_call 64;go_loud ((with_reducible refine (HMM.out _ (HNS.out.bel.new _)).mono ?_);rintro e w2 ⟨rfl,hb2⟩;have hbr2:Below wr.heap.size wr w2:=Gr;have NS2:=HNS.out.step hbr2;have NS2h:=hid NS2;have g0:=cell_blk (i:=0) (x:= .int .i64 st) NS2.g rfl;have g1:=cell_blk (i:=1) (x:= .int .i64 tm2) NS2.g rfl;have g2:=cell_blk (i:=2) (x:= .slice ka kn kc) NS2.g rfl;have g3:=cell_blk (i:=3) (x:= .int .i64 n) NS2.g rfl;have g4:=cell_blk (i:=4) (x:= .slice sa ms.length sc) NS2.g rfl;have g5:=cell_blk (i:=5) (x:= .slice ma ms.length mc) NS2.g rfl;have g6:=cell_blk (i:=6) (x:= .slice xa ms.length xc) NS2.g rfl;have a0:w2.cell? ⟨wr.heap.size,0,none⟩=some (.int .i64 4):=cell_step (cell_blk (heap_at rfl) rfl) hb2;have hrun:=HLK.out w2 NS2.m;have HBR2:=hid hbr2;have hz2:=hbr2.size;clear NS2 hbr2 hb2))
      |(go_at_call 62;go_loud ((with_reducible refine (HK0.out w2 NS2h.out.bel).mono ?_);rintro e w3 ⟨rfl,hb3⟩;have HB3:=hid hb3;have hz3:=hb3.size;clear hb3))
      |(at_builtin;go_loud (refine wpList_append_sl _ rfl _ _ 35 rfl (w1.heap.size+1) 63 i0 (.agg #[.bool false,.int .i64 0,.float .f64 0]) 3 24 Tryz.underlying35 hi hiz0 hiz1 hiz2 rfl (by decide) _ k _ rfl (((row_below HO.out (HBR2.out.step HB3.out)).alloc _).alloc _) (.slice (some ⟨w3.heap.size+1,0,none⟩) 1 1) 1 [.bool rb,.int .i64 rn,.float .f64 rf] rfl (SlAt.new1 w3 _ #[.bool rb,.int .i64 rn,.float .f64 rf] 63) (by simp [Value.oneCell']) (by unfold maxLen;omega) (by omega) (by simp;omega) ?_);intro v1 w5 hown1 hgrow1 hnb))
     go_roundw
     case rel=>
      refine ⟨k+1,hlt,by go_num,((NS2h.out.step HB3.out).step (((Below.refl _ _).new _).new _)).grow (((row_below HO.out (HBR2.out.step HB3.out)).alloc _).alloc _) hgrow1,by rw [HTK2.out];exact hown1,fun j y hj hy=> ?_⟩
      by_cases hjk:j<k
      ·exact HZ.out j y hjk hy
      ·obtain rfl:j=k:=by omega
       rw [HAT.out] at hy
       rw [←Option.some.inj hy]
     case measure=>simp [intOf];omega
    ·have HE:Hid (firstE NO=er):=firstE_at HAT.out (fun j y hj hy=>HZ.out j y hj hy) her
     have HER:=hid her
     have HK0:=hid (fun W h=>show Calls Tryz.prog 62 _ W (fun e w'=>e= .returned (.tuple #[.agg #[.bool rb,.int .i64 rn,.float .f64 rf],refV er])∧Below W.heap.size W w') from (HK.out W h).mono fun e w' ⟨h1,h2⟩=>⟨by rw [h1];unfold errG;rw [if_neg her],h2⟩)
     go_wp2_with (first
      |(go_at_call 64;go_loud ((with_reducible refine (HMM.out _ (HNS.out.bel.new _)).mono ?_);rintro e w2 ⟨rfl,hb2⟩;have hbr2:Below wr.heap.size wr w2:=Gr;have NS2:=HNS.out.step hbr2;have NS2h:=hid NS2;have g0:=cell_blk (i:=0) (x:= .int .i64 st) NS2.g rfl;have g1:=cell_blk (i:=1) (x:= .int .i64 tm2) NS2.g rfl;have g2:=cell_blk (i:=2) (x:= .slice ka kn kc) NS2.g rfl;have g3:=cell_blk (i:=3) (x:= .int .i64 n) NS2.g rfl;have g4:=cell_blk (i:=4) (x:= .slice sa ms.length sc) NS2.g rfl;have g5:=cell_blk (i:=5) (x:= .slice ma ms.length mc) NS2.g rfl;have g6:=cell_blk (i:=6) (x:= .slice xa ms.length xc) NS2.g rfl;have a0:w2.cell? ⟨wr.heap.size,0,none⟩=some (.int .i64 4):=cell_step (cell_blk (heap_at rfl) rfl) hb2;have hrun:=HLK.out w2 NS2.m;have HBR2:=hid hbr2;have hz2:=hbr2.size;clear NS2 hbr2 hb2))
      |(go_at_call 62;go_loud ((with_reducible refine (HK0.out w2 NS2h.out.bel).mono ?_);rintro e w3 ⟨rfl,hb3⟩;have HB3:=hid hb3;have hz3:=hb3.size;clear hb3))
      |(go_at_call 65;go_loud ((with_reducible refine (gtold_any er _ (HTR.out.below ((NS2h.out.bel.step HB3.out).new _))).mono ?_);rintro e w4 ⟨rfl,hb4⟩)))
     go_ret2
     exact ⟨.slice none 0 0,by rw [HE.out];rfl,(NS2h.out.bel.step HB3.out).step (((Below.refl _ _).new _).step hb4),.inr ⟨by rw [HE.out];exact HER.out,rfl⟩⟩
   ·have HK:=hid (fun W (h:Below w.heap.size w W)=>(show Calls Tryz.prog 63 #[.agg #[.int .i64 st,.int .i64 tm2,.slice ka kn kc,.int .i64 n,.slice sa ms.length sc,.slice ma ms.length mc,.slice xa ms.length xc,.int .i64 (i:Int)]] W (NumPost (numG d i 5) W) from by
     have:=avg_gany _ d i W (HG.out.below h) HGO.out (by rw [HOL.out.1];exact hil) HGS.out.sums
     dsimp only [GrpV.list,List.cons_append,List.nil_append] at this
     exact this))
    have HLK:=hid (fun (W:World) (h:W.ownsMap Tryz.prog 3 heldR w1.heap.size 5 tellsD)=>tells_look (g:=63) hkd h (by rw [tells_at];rfl))
    generalize numG d i 5=R at*
    obtain ⟨⟨rn,rb,rf⟩,er⟩:=R
    unfold NumPost at HK
    dsimp only at HK
    by_cases her:er=0
    ·subst her
     have HTK2:Hid ((fstL (NO.take (k+1))).flatMap NumD.cells=(fstL (NO.take k)).flatMap NumD.cells++[.bool rb,.int .i64 rn,.float .f64 rf]):=by
      unfold Hid
      rw [HTK.out]
      unfold fstL
      rw [List.map_append,List.flatMap_append]
      rfl
     have HK0:=hid (fun W h=>show Calls Tryz.prog 63 _ W (fun e w'=>e= .returned (.tuple #[.agg #[.bool rb,.int .i64 rn,.float .f64 rf],.nilIface])∧Below W.heap.size W w') from HK.out W h)
     go_wp2_with (first
      |(go_at_call 64;go_loud ((with_reducible refine (HMM.out _ (HNS.out.bel.new _)).mono ?_);rintro e w2 ⟨rfl,hb2⟩;have hbr2:Below wr.heap.size wr w2:=Gr;have NS2:=HNS.out.step hbr2;have NS2h:=hid NS2;have g0:=cell_blk (i:=0) (x:= .int .i64 st) NS2.g rfl;have g1:=cell_blk (i:=1) (x:= .int .i64 tm2) NS2.g rfl;have g2:=cell_blk (i:=2) (x:= .slice ka kn kc) NS2.g rfl;have g3:=cell_blk (i:=3) (x:= .int .i64 n) NS2.g rfl;have g4:=cell_blk (i:=4) (x:= .slice sa ms.length sc) NS2.g rfl;have g5:=cell_blk (i:=5) (x:= .slice ma ms.length mc) NS2.g rfl;have g6:=cell_blk (i:=6) (x:= .slice xa ms.length xc) NS2.g rfl;have a0:w2.cell? ⟨wr.heap.size,0,none⟩=some (.int .i64 5):=cell_step (cell_blk (heap_at rfl) rfl) hb2;have hrun:=HLK.out w2 NS2.m;have HBR2:=hid hbr2;have hz2:=hbr2.size;clear NS2 hbr2 hb2))
      |(go_at_call 63;go_loud ((with_reducible refine (HK0.out w2 NS2h.out.bel).mono ?_);rintro e w3 ⟨rfl,hb3⟩;have HB3:=hid hb3;have hz3:=hb3.size;clear hb3))
      |(at_builtin;go_loud (refine wpList_append_sl _ rfl _ _ 35 rfl (w1.heap.size+1) 63 i0 (.agg #[.bool false,.int .i64 0,.float .f64 0]) 3 24 Tryz.underlying35 hi hiz0 hiz1 hiz2 rfl (by decide) _ k _ rfl (((row_below HO.out (HBR2.out.step HB3.out)).alloc _).alloc _) (.slice (some ⟨w3.heap.size+1,0,none⟩) 1 1) 1 [.bool rb,.int .i64 rn,.float .f64 rf] rfl (SlAt.new1 w3 _ #[.bool rb,.int .i64 rn,.float .f64 rf] 63) (by simp [Value.oneCell']) (by unfold maxLen;omega) (by omega) (by simp;omega) ?_);intro v1 w5 hown1 hgrow1 hnb))
     go_roundw
     case rel=>
      refine ⟨k+1,hlt,by go_num,((NS2h.out.step HB3.out).step (((Below.refl _ _).new _).new _)).grow (((row_below HO.out (HBR2.out.step HB3.out)).alloc _).alloc _) hgrow1,by rw [HTK2.out];exact hown1,fun j y hj hy=> ?_⟩
      by_cases hjk:j<k
      ·exact HZ.out j y hjk hy
      ·obtain rfl:j=k:=by omega
       rw [HAT.out] at hy
       rw [←Option.some.inj hy]
     case measure=>simp [intOf];omega
    ·have HE:Hid (firstE NO=er):=firstE_at HAT.out (fun j y hj hy=>HZ.out j y hj hy) her
     have HER:=hid her
     have HK0:=hid (fun W h=>show Calls Tryz.prog 63 _ W (fun e w'=>e= .returned (.tuple #[.agg #[.bool rb,.int .i64 rn,.float .f64 rf],refV er])∧Below W.heap.size W w') from (HK.out W h).mono fun e w' ⟨h1,h2⟩=>⟨by rw [h1];unfold errG;rw [if_neg her],h2⟩)
     go_wp2_with (first
      |(go_at_call 64;go_loud ((with_reducible refine (HMM.out _ (HNS.out.bel.new _)).mono ?_);rintro e w2 ⟨rfl,hb2⟩;have hbr2:Below wr.heap.size wr w2:=Gr;have NS2:=HNS.out.step hbr2;have NS2h:=hid NS2;have g0:=cell_blk (i:=0) (x:= .int .i64 st) NS2.g rfl;have g1:=cell_blk (i:=1) (x:= .int .i64 tm2) NS2.g rfl;have g2:=cell_blk (i:=2) (x:= .slice ka kn kc) NS2.g rfl;have g3:=cell_blk (i:=3) (x:= .int .i64 n) NS2.g rfl;have g4:=cell_blk (i:=4) (x:= .slice sa ms.length sc) NS2.g rfl;have g5:=cell_blk (i:=5) (x:= .slice ma ms.length mc) NS2.g rfl;have g6:=cell_blk (i:=6) (x:= .slice xa ms.length xc) NS2.g rfl;have a0:w2.cell? ⟨wr.heap.size,0,none⟩=some (.int .i64 5):=cell_step (cell_blk (heap_at rfl) rfl) hb2;have hrun:=HLK.out w2 NS2.m;have HBR2:=hid hbr2;have hz2:=hbr2.size;clear NS2 hbr2 hb2))
      |(go_at_call 63;go_loud ((with_reducible refine (HK0.out w2 NS2h.out.bel).mono ?_);rintro e w3 ⟨rfl,hb3⟩;have HB3:=hid hb3;have hz3:=hb3.size;clear hb3))
      |(go_at_call 65;go_loud ((with_reducible refine (gtold_any er _ (HTR.out.below ((NS2h.out.bel.step HB3.out).new _))).mono ?_);rintro e w4 ⟨rfl,hb4⟩)))
     go_ret2
     exact ⟨.slice none 0 0,by rw [HE.out];rfl,(NS2h.out.bel.step HB3.out).step (((Below.refl _ _).new _).step hb4),.inr ⟨by rw [HE.out];exact HER.out,rfl⟩⟩
  ·obtain rfl:k=LA:=by omega
   have htk:NO.take k=NO:=List.take_of_length_le (by rw [HNL.out,HN.out];exact Nat.le_refl _)
   have hz:=HZ.out
   have hE:firstE NO=0:=firstE_zero (fun x hx=>by
    obtain ⟨j,hj,rfl⟩:=List.mem_iff_getElem.1 hx
    exact hz j _ (by rw [HNL.out,HN.out] at hj;exact hj) (List.getElem?_eq_getElem hj))
   have hown:=HO.out
   rw [htk] at hown
   have hfl:(fstL NO).length=k:=by unfold fstL;rw [List.length_map,HNL.out,HN.out]
   have HOWN:=hid (show wr.ownsRow w.heap.size 63 3 _ (fstL NO).length ((fstL NO).flatMap NumD.cells) by rw [hfl];exact hown.base_le (by omega))
   have HE:=hid hE
   obtain ⟨oo,oc,rfl,_⟩:=SlAt.shape (SlAt.own hown)
   clear htk hz hE hown hfl
   go_wp2
   go_ret2
   refine ⟨.slice oo k oc,?_,HNS.out.bel,.inl ⟨HE.out,HOWN.out⟩⟩
   rw [HE.out]
   rfl
end Go.Proofs.YtejleplhmkmegaaGreatDoor
