/- Texts joined: OrP. -/
import Derived.Test.YtejleplhmkmegaaGreatDoorOh
import Derived.Deep.DeepCutAuto
set_option linter.unusedVariables false
set_option linter.unusedSimpArgs false
namespace Go.Proofs.YtejleplhmkmegaaGreatDoor
set_option maxRecDepth 100000
open Go.ChangeShapes Go.WideShapes Go.ChangeAt Go.RowKit Go.Fl
def cutA (a:AggD):AggD:=⟨a.kind,cutS 30 a.metric⟩
def cutN (l:List ByteArray):List ByteArray:=(l.take 10).map (cutS 30)
def fewQ (d:QryD):QryD:=⟨(d.aggs.take 10).map cutA,cutN d.by_,d.mode,(d.sets.take 10).map cutN,d.every,fewF d.wher,d.having.take 10,d.order.take 10,d.limit⟩
abbrev outQ (va v1:Value) (mode:Int) (vs:Value) (every k:Int) (n:ByteArray) (vw:Value) (fr till:Int) (vl vh vo:Value) (limit:Int):Array Value:=
 #[va,v1,.int .i64 mode,vs,.int .i64 every,.int .i64 k,.string n,vw,.int .i64 fr,.int .i64 till,vl,vh,vo,.int .i64 limit]
abbrev qZ:Array Value:= #[.slice none 0 0,.slice none 0 0,.int .i64 0,.slice none 0 0,.int .i64 0,.int .i64 0,.string { data:= #[]},.slice none 0 0,.int .i64 0,.int .i64 0,.slice none 0 0,.slice none 0 0,.slice none 0 0,.int .i64 0]
def KeepP (K:(Nat→Prop)→World→Prop):Prop:=∀(S T:Nat→Prop) (X Y:World),(∀b,S b→T b)→(∀b,S b→b<X.heap.size→Y.heap[b]? =X.heap[b]?)→K S X→K T Y
theorem KeepP.and {K L:(Nat→Prop)→World→Prop} (h:KeepP K) (k:KeepP L):KeepP (fun S X=>K S X∧L S X):=fun S T X Y a b c=>⟨h S T X Y a b c.1,k S T X Y a b c.2⟩
theorem KeepP.sl {v:Value} {n size:Nat} {cs:List Value}:KeepP (fun S X=>SlS S X v n size cs):=fun S T X Y a b h=>h.keep a b
theorem KeepP.fil {d:Nat} {cs:List Value} {f:FilD}:KeepP (fun S X=>FilS S X d cs f):=fun S T X Y a b h=>h.keep a b
structure FewSt (w:World) (qc:Array Value) (P:Nat) (cs:Array Value) (S:Nat→Prop) (K:(Nat→Prop)→World→Prop) (X:World):Prop where
 q:X.heap[w.heap.size]? =some (.cells qc 33 (0,0))
 z:X.heap[w.heap.size+1]? =some (.cells qZ 33 (0,0))
 out:X.heap[P]? =some (.cells cs 33 (0,0))
 lo:w.heap.size+1+1≤P
 sb:∀b,S b→w.heap.size+1+1≤b∧b<X.heap.size∧b≠P
 k:K S X
 bel:Below w.heap.size w X
theorem store14 {W:World} {b:Nat} {T:TypeId} {cs:Array Value} (hcs:cs.size=14) (h:W.heap[b]? =some (.cells cs T (0,0))) (a0 a1 a2 a3 a4 a5 a6 a7 a8 a9 a10 a11 a12 a13:Value):
  ((((((((((((((W.setCell ⟨b,0,none⟩ a0).setCell ⟨b,1,none⟩ a1).setCell ⟨b,2,none⟩ a2).setCell ⟨b,3,none⟩ a3).setCell ⟨b,4,none⟩ a4).setCell ⟨b,5,none⟩ a5).setCell ⟨b,6,none⟩ a6).setCell ⟨b,7,none⟩ a7).setCell ⟨b,8,none⟩ a8).setCell ⟨b,9,none⟩ a9).setCell ⟨b,10,none⟩ a10).setCell ⟨b,11,none⟩ a11).setCell ⟨b,12,none⟩ a12).setCell ⟨b,13,none⟩ a13).heap[b]? =some (.cells #[a0,a1,a2,a3,a4,a5,a6,a7,a8,a9,a10,a11,a12,a13] T (0,0)):=by
 obtain ⟨l⟩:=cs
 match l,hcs with
 |[c0,c1,c2,c3,c4,c5,c6,c7,c8,c9,c10,c11,c12,c13],_=>
  have:=blk_set (o:=13) (v:=a13) (blk_set (o:=12) (v:=a12) (blk_set (o:=11) (v:=a11) (blk_set (o:=10) (v:=a10) (blk_set (o:=9) (v:=a9) (blk_set (o:=8) (v:=a8) (blk_set (o:=7) (v:=a7) (blk_set (o:=6) (v:=a6) (blk_set (o:=5) (v:=a5) (blk_set (o:=4) (v:=a4) (blk_set (o:=3) (v:=a3) (blk_set (o:=2) (v:=a2) (blk_set (o:=1) (v:=a1) (blk_set (o:=0) (v:=a0) h)))))))))))))
  simpa using this
theorem other14 {W:World} {b c:Nat} (hne:c≠b) (a0 a1 a2 a3 a4 a5 a6 a7 a8 a9 a10 a11 a12 a13:Value):
  ((((((((((((((W.setCell ⟨b,0,none⟩ a0).setCell ⟨b,1,none⟩ a1).setCell ⟨b,2,none⟩ a2).setCell ⟨b,3,none⟩ a3).setCell ⟨b,4,none⟩ a4).setCell ⟨b,5,none⟩ a5).setCell ⟨b,6,none⟩ a6).setCell ⟨b,7,none⟩ a7).setCell ⟨b,8,none⟩ a8).setCell ⟨b,9,none⟩ a9).setCell ⟨b,10,none⟩ a10).setCell ⟨b,11,none⟩ a11).setCell ⟨b,12,none⟩ a12).setCell ⟨b,13,none⟩ a13).heap[c]? =W.heap[c]? :=by
 rw [heap_set_other hne,heap_set_other hne,heap_set_other hne,heap_set_other hne,heap_set_other hne,heap_set_other hne,heap_set_other hne,heap_set_other hne,heap_set_other hne,heap_set_other hne,heap_set_other hne,heap_set_other hne,heap_set_other hne,heap_set_other hne]
theorem below14 {w0 W:World} {b:Nat} (h:Below w0.heap.size w0 W) (hb:w0.heap.size≤b) (a0 a1 a2 a3 a4 a5 a6 a7 a8 a9 a10 a11 a12 a13:Value):
  Below w0.heap.size w0 ((((((((((((((W.setCell ⟨b,0,none⟩ a0).setCell ⟨b,1,none⟩ a1).setCell ⟨b,2,none⟩ a2).setCell ⟨b,3,none⟩ a3).setCell ⟨b,4,none⟩ a4).setCell ⟨b,5,none⟩ a5).setCell ⟨b,6,none⟩ a6).setCell ⟨b,7,none⟩ a7).setCell ⟨b,8,none⟩ a8).setCell ⟨b,9,none⟩ a9).setCell ⟨b,10,none⟩ a10).setCell ⟨b,11,none⟩ a11).setCell ⟨b,12,none⟩ a12).setCell ⟨b,13,none⟩ a13):=by
 repeat (refine Below.setCell ?_ hb _)
 exact h
theorem few_store {w W:World} {qc:Array Value} {P:Nat} {S:Nat→Prop} {K:(Nat→Prop)→World→Prop} (hK:KeepP K) (h:FewSt w qc P qZ S K W) (a0 a1 a2 a3 a4 a5 a6 a7 a8 a9 a10 a11 a12 a13:Value):
  FewSt w qc P #[a0,a1,a2,a3,a4,a5,a6,a7,a8,a9,a10,a11,a12,a13] S K ((((((((((((((W.setCell ⟨P,0,none⟩ a0).setCell ⟨P,1,none⟩ a1).setCell ⟨P,2,none⟩ a2).setCell ⟨P,3,none⟩ a3).setCell ⟨P,4,none⟩ a4).setCell ⟨P,5,none⟩ a5).setCell ⟨P,6,none⟩ a6).setCell ⟨P,7,none⟩ a7).setCell ⟨P,8,none⟩ a8).setCell ⟨P,9,none⟩ a9).setCell ⟨P,10,none⟩ a10).setCell ⟨P,11,none⟩ a11).setCell ⟨P,12,none⟩ a12).setCell ⟨P,13,none⟩ a13):=by
 have hP:=h.lo
 refine ⟨(other14 (by omega) ..).trans h.q,(other14 (by omega) ..).trans h.z,store14 rfl h.out ..,h.lo,fun b hb=> ?_,hK _ _ _ _ (fun b h=>h) (fun b hb _=>other14 (h.sb b hb).2.2 ..) h.k,below14 h.bel (by omega) ..⟩
 simp only [World.size_setCell]
 exact h.sb b hb
theorem few_alloc {w W:World} {qc cs:Array Value} {S:Nat→Prop} {K:(Nat→Prop)→World→Prop} (hK:KeepP K) (hq:W.heap[w.heap.size]? =some (.cells qc 33 (0,0))) (hz:W.heap[w.heap.size+1]? =some (.cells qZ 33 (0,0))) (hs:∀b,S b→w.heap.size+1+1≤b∧b<W.heap.size) (hk:K S W) (hb:Below w.heap.size w W):
  FewSt w qc W.heap.size cs S K (W.alloc (.cells cs 33)):=by
 have h2:=lt_of_block hz
 have h1:=lt_of_block hq
 refine ⟨(heap_past h1).trans hq,(heap_past h2).trans hz,heap_at rfl,by omega,fun b h=> ?_,hK _ _ _ _ (fun b h=>h) (fun b _ hl=>heap_past hl) hk,hb.alloc (by omega) _⟩
 have:=hs b h
 simp only [World.size_alloc]
 omega
theorem FewSt.below {w W X:World} {qc cs:Array Value} {P:Nat} {S:Nat→Prop} {K:(Nat→Prop)→World→Prop} (hK:KeepP K) (h:FewSt w qc P cs S K W) (hb:Below W.heap.size W X):FewSt w qc P cs S K X:=
 ⟨blk_below h.q hb,blk_below h.z hb,blk_below h.out hb,h.lo,fun b h'=>⟨(h.sb b h').1,by have:=(h.sb b h').2.1;have:=hb.size;omega,(h.sb b h').2.2⟩,hK _ _ _ _ (fun b h=>h) (fun b _ hl=>hb.block b hl) h.k,h.bel.step hb⟩
theorem FewSt.mono {w W:World} {qc cs:Array Value} {P:Nat} {S T:Nat→Prop} {K L:(Nat→Prop)→World→Prop} (h:FewSt w qc P cs S K W) (hs:∀b,T b→w.heap.size+1+1≤b∧b<W.heap.size∧b≠P) (hk:L T W):FewSt w qc P cs T L W:=
 ⟨h.q,h.z,h.out,h.lo,hs,hk,h.bel⟩
theorem few_grow {w W X:World} {qc cs:Array Value} {P:Nat} {S:Nat→Prop} {K:(Nat→Prop)→World→Prop} {T:TypeId} {size n:Nat} {v:Value} {xs:List Value} (hK:KeepP K) (h:FewSt w qc P cs S K W) (hown:W.ownsRow (P+1) T size v n xs) (hg:W.grownBy X v.ownBlock) (hne:∀b,S b→v.ownBlock≠some b) (i:Nat) (u:Value):
  FewSt w qc P (cs.setIfInBounds i u) S K (X.setCell ⟨P,i,none⟩ u):=by
 have hP:=h.lo
 have hb:∀b,b<P+1→b<W.heap.size→X.heap[b]? =W.heap[b]? :=fun b h1 h2=>hg.block b h2 (fun e=>by have:=(hown.lt b e.symm).1;omega)
 have l1:=lt_of_block h.q;have l2:=lt_of_block h.z;have l3:=lt_of_block h.out
 refine ⟨?_,?_,?_,h.lo,fun b hb'=> ?_,hK _ _ _ _ (fun b h=>h) (fun b hb' hl=> ?_) h.k,?_⟩
 ·rw [heap_set_other (by omega),hb _ (by omega) l1];exact h.q
 ·rw [heap_set_other (by omega),hb _ (by omega) l2];exact h.z
 ·exact blk_set ((hb _ (by omega) l3).trans h.out)
 ·have:=h.sb b hb'
  have:=hg.size
  simp only [World.size_setCell]
  omega
 ·rw [heap_set_other (h.sb b hb').2.2]
  exact hg.block b hl (fun e=>hne b hb' e.symm)
 ·exact (own_below hown hg h.bel (by omega)).setCell (by dsimp only;omega) _
theorem AggD.take_snoc {l:List AggD} {k:Nat} (hk:k<l.length):((l.take (k+1)).map cutA).flatMap AggD.cells=((l.take k).map cutA).flatMap AggD.cells++[.int .i64 l[k].kind,.string (cutS 30 l[k].metric)]:=by
 rw [List.take_succ_eq_append_getElem hk,List.map_append,List.flatMap_append]
 rfl
def KV (SC:List (List ByteArray)) (vs:List Value) (S:Nat→Prop) (X:World):Prop:=∀(i:Nat) (x:Value) (ss:List ByteArray),vs[i]? =some x→SC[i]? =some ss→SlS S X x ss.length 1 (strsV ss)
theorem KV.keep {SC:List (List ByteArray)} {vs:List Value}:KeepP (KV SC vs):=fun S T X Y a b h i x ss h1 h2=>(h i x ss h1 h2).keep a b
theorem info_strs:(Tryz.prog.info? 23).map (fun i=>(i.zero,i.size,i.bytes))=some (some (.slice none 0 0),1,24):=by kernel_rfl
set_option maxHeartbeats 8000000 in
theorem few15_any (S0:Nat→Prop) (q:QryV) (d:QryD) (w:World) (hqn:QryN S0 w q d) (ok:QryOk d):
  Calls Tryz.prog 9 #[.agg q.cells] w fun e w'=>∃q',e= .returned (.agg q'.cells)∧QryN (fun b=>S0 b∧b<w.heap.size∨w.heap.size+1+1≤b) w' q' (fewQ d)∧Below w.heap.size w w':=by
 have h:=hqn.is
 have HQN:Hid (SlS (fun b=>S0 b∧b<w.heap.size) w (.slice q.ha q.hn q.hc) d.having.length 3 (d.having.flatMap CondD.cells)∧SlS (fun b=>S0 b∧b<w.heap.size) w (.slice q.oa q.on q.oc) d.order.length 3 (d.order.flatMap KeyD.cells)):=⟨hqn.having.lt,hqn.order.lt⟩
 clear hqn
 have HN:=hid (fun W (hb:Below w.heap.size w W)=>names15_any _ d.by_ W (h.by_.below hb) ok.by_)
 obtain ⟨D,hwh⟩:=h.wher
 have HF:=hid (fun W (hb:Below w.heap.size w W)=>few14_any _ D d.wher _ W (hwh.below hb))
 have HQ:=hid h
 obtain ⟨vs,hvl,hvs,hvr⟩:=h.sets
 obtain ⟨la0,la1,la2,la3,la4⟩:=SlAt.parts h.aggs
 obtain ⟨lb0,lb1,lb2,lb3,_⟩:=SlAt.parts h.by_
 obtain ⟨ls0,ls1,ls2,ls3,ls4⟩:=SlAt.parts hvs
 obtain ⟨lh0,lh1,lh2,lh3,_⟩:=SlAt.parts h.having
 obtain ⟨lo0,lo1,lo2,lo3,_⟩:=SlAt.parts h.order
 have HM:=hid h.mode;have HE:=hid h.every;have HL:=hid h.limit
 obtain ⟨aa,LA,ac,ba,LB,bc,mode,sa,LS,sc,every,kind,name,wa,wn,wk,fr,till,la,ln,lc,ha,LH,hc,oa,LO,oc,limit⟩:=q
 dsimp only [QryV.cells] at*
 have HOK:=hid ok
 have HLA:=hid la0;have HLB:=hid lb0;have HLS:=hid ls0;have HLH:=hid lh0;have HLO:=hid lo0
 have HVS:=hid (⟨hvl,hvr⟩:_∧_)
 have HA4:=hid la4;have HS4:=hid ls4
 rw [←la0] at la1;rw [←lb0] at lb1;rw [←ls0] at ls1;rw [←lh0] at lh1;rw [←lo0] at lo1
 clear h hwh hvl hvs hvr ok la0 lb0 ls0 lh0 lo0 la4 ls4
 unfold maxLen at la2 lb2 ls2 lh2 lo2
 obtain ⟨N,hN⟩:∃N,min d.by_.length 10=N:=⟨_,rfl⟩
 obtain ⟨R,hR⟩:∃R,strsV ((d.by_.take 10).map (cutS 30))=R:=⟨_,rfl⟩
 rw [hN,hR] at HN
 replace hN:=hid hN;replace hR:=hid hR
 obtain ⟨FF,hFF⟩:∃F,fewF d.wher=F:=⟨_,rfl⟩
 rw [hFF] at HF
 replace hFF:=hid hFF
 have im:=ite_min
 obtain ⟨M1,hM1⟩:∃M,min LH 10=M:=⟨_,rfl⟩
 obtain ⟨M2,hM2⟩:∃M,min LO 10=M:=⟨_,rfl⟩
 have q1:(0:Int)≤min (LH:Int) 10:=by omega
 have q2:min (LH:Int) 10≤(hc:Int):=by omega
 have q3:(min (LH:Int) 10).toNat=M1:=by omega
 have q4:(0:Int)≤min (LO:Int) 10:=by omega
 have q5:min (LO:Int) 10≤(oc:Int):=by omega
 have q6:(min (LO:Int) 10).toNat=M2:=by omega
 have q7:M1≤LH:=by omega
 have q8:M2≤LO:=by omega
 replace hM1:=hid hM1;replace hM2:=hid hM2
 go_enter Tryz.func9,Tryz.ntmps9
 go_upto_region 1 with fail
 obtain ⟨X,hX⟩:∃X,(w.alloc (.cells #[.slice aa LA ac,.slice ba LB bc,.int .i64 mode,.slice sa LS sc,.int .i64 every,.int .i64 kind,.string name,.slice wa wn wk,.int .i64 fr,.int .i64 till,.slice la ln lc,.slice ha LH hc,.slice oa LO oc,.int .i64 limit] 33)).alloc (.cells qZ 33)=X:=⟨_,rfl⟩
 have hBX:Below w.heap.size w X:=by rw [←hX];exact Gr
 have hzX:X.heap.size=w.heap.size+1+1:=by rw [←hX];simp
 have x0:X.heap[w.heap.size]? =some (.cells #[.slice aa LA ac,.slice ba LB bc,.int .i64 mode,.slice sa LS sc,.int .i64 every,.int .i64 kind,.string name,.slice wa wn wk,.int .i64 fr,.int .i64 till,.slice la ln lc,.slice ha LH hc,.slice oa LO oc,.int .i64 limit] 33 (0,0)):=by rw [←hX,heap_past (by simp)];exact heap_at rfl
 have x1:X.heap[w.heap.size+1]? =some (.cells qZ 33 (0,0)):=by rw [←hX];exact heap_at (by simp)
 rw [hX]
 clear hX
 have HX:=hid (⟨x0,x1,hBX,hzX⟩:_∧_∧_∧_)
 go_cut [3] (fun s3 wx=>∃(P:Nat) (b1:Option Addr) (k1:Nat) (S':Nat→Prop) (k2:Int) (n2:ByteArray) (aw2:Option Addr) (lw2 cw2:Nat) (fr2 till2:Int) (al2:Option Addr) (ll2 cl2:Nat),s3= .pointer (some ⟨P,0,none⟩)∧
  FewSt w #[.slice aa LA ac,.slice ba LB bc,.int .i64 mode,.slice sa LS sc,.int .i64 every,.int .i64 kind,.string name,.slice wa wn wk,.int .i64 fr,.int .i64 till,.slice la ln lc,.slice ha LH hc,.slice oa LO oc,.int .i64 limit] P (outQ (.slice none 0 0) (.slice b1 N k1) mode (.slice none 0 0) every (k2) (n2) (.slice aw2 lw2 cw2) (fr2) (till2) (.slice al2 ll2 cl2) (.slice ha M1 hc) (.slice oa M2 oc) limit) S' (fun S X=>SlS S X (.slice b1 N k1) N 1 R∧FilS S X 8 [.int .i64 k2,.string n2,.slice aw2 lw2 cw2,.int .i64 fr2,.int .i64 till2,.slice al2 ll2 cl2] FF) wx)
 case first=>
  have hS0:(fun w':World=>w'.cell? ⟨w.heap.size,1,none⟩=some (.slice ba LB bc)∧w'.cell? ⟨w.heap.size,2,none⟩=some (.int .i64 mode)∧w'.cell? ⟨w.heap.size,4,none⟩=some (.int .i64 every)∧w'.cell? ⟨w.heap.size,5,none⟩=some (.int .i64 kind)∧w'.cell? ⟨w.heap.size,6,none⟩=some (.string name)∧w'.cell? ⟨w.heap.size,7,none⟩=some (.slice wa wn wk)∧w'.cell? ⟨w.heap.size,8,none⟩=some (.int .i64 fr)∧w'.cell? ⟨w.heap.size,9,none⟩=some (.int .i64 till)∧w'.cell? ⟨w.heap.size,10,none⟩=some (.slice la ln lc)∧w'.cell? ⟨w.heap.size,11,none⟩=some (.slice ha LH hc)∧w'.cell? ⟨w.heap.size,12,none⟩=some (.slice oa LO oc)∧w'.cell? ⟨w.heap.size,13,none⟩=some (.int .i64 limit)) X.drew:=⟨cell_blk x0 rfl,cell_blk x0 rfl,cell_blk x0 rfl,cell_blk x0 rfl,cell_blk x0 rfl,cell_blk x0 rfl,cell_blk x0 rfl,cell_blk x0 rfl,cell_blk x0 rfl,cell_blk x0 rfl,cell_blk x0 rfl,cell_blk x0 rfl⟩
  have hBD:Below X.heap.size X X.drew:=Below.drew (Below.refl _ _)
  clear x0 x1
  refine wp_region_some (fun w':World=>w'.cell? ⟨w.heap.size,1,none⟩=some (.slice ba LB bc)∧w'.cell? ⟨w.heap.size,2,none⟩=some (.int .i64 mode)∧w'.cell? ⟨w.heap.size,4,none⟩=some (.int .i64 every)∧w'.cell? ⟨w.heap.size,5,none⟩=some (.int .i64 kind)∧w'.cell? ⟨w.heap.size,6,none⟩=some (.string name)∧w'.cell? ⟨w.heap.size,7,none⟩=some (.slice wa wn wk)∧w'.cell? ⟨w.heap.size,8,none⟩=some (.int .i64 fr)∧w'.cell? ⟨w.heap.size,9,none⟩=some (.int .i64 till)∧w'.cell? ⟨w.heap.size,10,none⟩=some (.slice la ln lc)∧w'.cell? ⟨w.heap.size,11,none⟩=some (.slice ha LH hc)∧w'.cell? ⟨w.heap.size,12,none⟩=some (.slice oa LO oc)∧w'.cell? ⟨w.heap.size,13,none⟩=some (.int .i64 limit)) [28] (by kernel_rfl) ?_
  refine Tk 0 hS0 ?_
  refine Tk 1 hS0 ?_
  refine Tk 3 hS0 ?_
  refine Tk 4 hS0 ?_
  refine Tk 5 hS0 ?_
  refine Tk 6 hS0 ?_
  refine Tk 7 hS0 ?_
  refine Tk 8 hS0 ?_
  refine Tk 10 hS0 ?_
  refine Tk 11 hS0 ?_
  refine Tk 12 hS0 ?_
  refine Tk 13 hS0 ?_
  refine Tk 14 hS0 ?_
  refine Tk 15 hS0 ?_
  refine Tk 16 hS0 ?_
  refine Tk 17 hS0 ?_
  refine Tk 18 hS0 ?_
  refine Tk 19 hS0 ?_
  refine Tk 20 hS0 ?_
  refine Tk 21 hS0 ?_
  refine Tk 22 hS0 ?_
  refine Tk 23 hS0 ?_
  refine Tk 24 hS0 ?_
  refine Tk 25 hS0 ?_
  refine wpMix_pick [2,27] (by kernel_rfl) (pick_two ?_ ?_) (by simp)
  all_goals simp only [opsAt,Ol]
  ·go_wp2_with (go_at_call 22;go_loud ((with_reducible refine (HN.out _ Gr).mono ?_);rintro e w1 ⟨v1,rfl,ho1,hb1⟩;obtain ⟨b1,k1,rfl,_⟩:=SlAt.shape (SlAt.own ho1)))
   have hbb:=hBD.trans hb1
   have hS1:(fun w':World=>w'.cell? ⟨w.heap.size,1,none⟩=some (.slice ba LB bc)∧w'.cell? ⟨w.heap.size,2,none⟩=some (.int .i64 mode)∧w'.cell? ⟨w.heap.size,4,none⟩=some (.int .i64 every)∧w'.cell? ⟨w.heap.size,5,none⟩=some (.int .i64 kind)∧w'.cell? ⟨w.heap.size,6,none⟩=some (.string name)∧w'.cell? ⟨w.heap.size,7,none⟩=some (.slice wa wn wk)∧w'.cell? ⟨w.heap.size,8,none⟩=some (.int .i64 fr)∧w'.cell? ⟨w.heap.size,9,none⟩=some (.int .i64 till)∧w'.cell? ⟨w.heap.size,10,none⟩=some (.slice la ln lc)∧w'.cell? ⟨w.heap.size,11,none⟩=some (.slice ha LH hc)∧w'.cell? ⟨w.heap.size,12,none⟩=some (.slice oa LO oc)∧w'.cell? ⟨w.heap.size,13,none⟩=some (.int .i64 limit)) w1:=⟨cell_step hS0.1 hb1,cell_step hS0.2.1 hb1,cell_step hS0.2.2.1 hb1,cell_step hS0.2.2.2.1 hb1,cell_step hS0.2.2.2.2.1 hb1,cell_step hS0.2.2.2.2.2.1 hb1,cell_step hS0.2.2.2.2.2.2.1 hb1,cell_step hS0.2.2.2.2.2.2.2.1 hb1,cell_step hS0.2.2.2.2.2.2.2.2.1 hb1,cell_step hS0.2.2.2.2.2.2.2.2.2.1 hb1,cell_step hS0.2.2.2.2.2.2.2.2.2.2.1 hb1,cell_step hS0.2.2.2.2.2.2.2.2.2.2.2 hb1⟩
   refine ⟨hS1,?_⟩
   refine wpMix_pick [9,27] (by kernel_rfl) (pick_two ?_ ?_) (by simp)
   all_goals simp only [opsAt,Ol]
   ·go_wp2_with (go_at_call 23;go_loud ((with_reducible refine (HF.out _ Gr).mono ?_);rintro e w2 ⟨cs',rfl,hfc,hb2⟩;obtain ⟨k2,n2,aw2,lw2,cw2,fr2,till2,al2,ll2,cl2,rfl⟩:=hfc.six))
    have hS2:(fun w':World=>w'.cell? ⟨w.heap.size,1,none⟩=some (.slice ba LB bc)∧w'.cell? ⟨w.heap.size,2,none⟩=some (.int .i64 mode)∧w'.cell? ⟨w.heap.size,4,none⟩=some (.int .i64 every)∧w'.cell? ⟨w.heap.size,5,none⟩=some (.int .i64 kind)∧w'.cell? ⟨w.heap.size,6,none⟩=some (.string name)∧w'.cell? ⟨w.heap.size,7,none⟩=some (.slice wa wn wk)∧w'.cell? ⟨w.heap.size,8,none⟩=some (.int .i64 fr)∧w'.cell? ⟨w.heap.size,9,none⟩=some (.int .i64 till)∧w'.cell? ⟨w.heap.size,10,none⟩=some (.slice la ln lc)∧w'.cell? ⟨w.heap.size,11,none⟩=some (.slice ha LH hc)∧w'.cell? ⟨w.heap.size,12,none⟩=some (.slice oa LO oc)∧w'.cell? ⟨w.heap.size,13,none⟩=some (.int .i64 limit)) w2:=⟨cell_step hS1.1 hb2,cell_step hS1.2.1 hb2,cell_step hS1.2.2.1 hb2,cell_step hS1.2.2.2.1 hb2,cell_step hS1.2.2.2.2.1 hb2,cell_step hS1.2.2.2.2.2.1 hb2,cell_step hS1.2.2.2.2.2.2.1 hb2,cell_step hS1.2.2.2.2.2.2.2.1 hb2,cell_step hS1.2.2.2.2.2.2.2.2.1 hb2,cell_step hS1.2.2.2.2.2.2.2.2.2.1 hb2,cell_step hS1.2.2.2.2.2.2.2.2.2.2.1 hb2,cell_step hS1.2.2.2.2.2.2.2.2.2.2.2 hb2⟩
    refine ⟨hS2,?_⟩
    have hB2:Below X.heap.size X w2:=hbb.step hb2
    have hz1:=hbb.size
    have hz2:=hb2.size
    have HFIN:Hid (∀cs,FewSt w #[.slice aa LA ac,.slice ba LB bc,.int .i64 mode,.slice sa LS sc,.int .i64 every,.int .i64 kind,.string name,.slice wa wn wk,.int .i64 fr,.int .i64 till,.slice la ln lc,.slice ha LH hc,.slice oa LO oc,.int .i64 limit] w2.heap.size cs (fun b=>(Value.slice b1 N k1).ownBlock=some b∨(w1.heap.size≤b∧b<w2.heap.size)) (fun S X=>SlS S X (.slice b1 N k1) N 1 R∧FilS S X 8 [.int .i64 k2,.string n2,.slice aw2 lw2 cw2,.int .i64 fr2,.int .i64 till2,.slice al2 ll2 cl2] FF) (w2.alloc (.cells cs 33))):=fun cs=>by
     refine few_alloc (KeepP.sl.and KeepP.fil) ((hB2.block _ (by omega)).trans HX.out.1) ((hB2.block _ (by omega)).trans HX.out.2.1) (fun b hb=> ?_) ⟨(SlS.own ho1).keep (fun b h=> .inl h) (fun b _ hl=>hb2.block b hl),hfc.keep (fun b h=> .inr h) (fun _ _ _=>rfl)⟩ (hBX.step hB2)
     rcases hb with hb|hb
     ·have:=ho1.lt b hb
      simp only [World.size_drew] at this
      omega
     ·omega
    clear hB2 hz1 hz2 ho1 hfc hb1 hb2 hbb hS0 hS1
    refine wpMix_pick [26,27] (by kernel_rfl) (pick_two ?_ ?_) (by simp)
    all_goals simp only [opsAt,Ol]
    ·go_wp2
     refine ⟨hS2,?_⟩
     refine wpMix_next (t:=27) (by kernel_rfl) ?_
     simp only [opsAt,Ol]
     go_wp2
     refine ⟨⟨cell_step hS2.1 (Below.new (Below.refl _ _) _),cell_step hS2.2.1 (Below.new (Below.refl _ _) _),cell_step hS2.2.2.1 (Below.new (Below.refl _ _) _),cell_step hS2.2.2.2.1 (Below.new (Below.refl _ _) _),cell_step hS2.2.2.2.2.1 (Below.new (Below.refl _ _) _),cell_step hS2.2.2.2.2.2.1 (Below.new (Below.refl _ _) _),cell_step hS2.2.2.2.2.2.2.1 (Below.new (Below.refl _ _) _),cell_step hS2.2.2.2.2.2.2.2.1 (Below.new (Below.refl _ _) _),cell_step hS2.2.2.2.2.2.2.2.2.1 (Below.new (Below.refl _ _) _),cell_step hS2.2.2.2.2.2.2.2.2.2.1 (Below.new (Below.refl _ _) _),cell_step hS2.2.2.2.2.2.2.2.2.2.2.1 (Below.new (Below.refl _ _) _),cell_step hS2.2.2.2.2.2.2.2.2.2.2.2 (Below.new (Below.refl _ _) _)⟩,?_⟩
     refine wpMix_rest [28] (by kernel_rfl) ?_
     simp only [opsAt,Ol]
     go_wp2
     go_meet
     exact ⟨_,b1,k1,_,k2,n2,aw2,lw2,cw2,fr2,till2,al2,ll2,cl2,rfl,HFIN.out _⟩
    ·go_wp2
     refine ⟨⟨cell_step hS2.1 (Below.new (Below.refl _ _) _),cell_step hS2.2.1 (Below.new (Below.refl _ _) _),cell_step hS2.2.2.1 (Below.new (Below.refl _ _) _),cell_step hS2.2.2.2.1 (Below.new (Below.refl _ _) _),cell_step hS2.2.2.2.2.1 (Below.new (Below.refl _ _) _),cell_step hS2.2.2.2.2.2.1 (Below.new (Below.refl _ _) _),cell_step hS2.2.2.2.2.2.2.1 (Below.new (Below.refl _ _) _),cell_step hS2.2.2.2.2.2.2.2.1 (Below.new (Below.refl _ _) _),cell_step hS2.2.2.2.2.2.2.2.2.1 (Below.new (Below.refl _ _) _),cell_step hS2.2.2.2.2.2.2.2.2.2.1 (Below.new (Below.refl _ _) _),cell_step hS2.2.2.2.2.2.2.2.2.2.2.1 (Below.new (Below.refl _ _) _),cell_step hS2.2.2.2.2.2.2.2.2.2.2.2 (Below.new (Below.refl _ _) _)⟩,?_⟩
     refine wpMix_next (t:=26) (by kernel_rfl) ?_
     simp only [opsAt,Ol]
     go_wp2
     refine ⟨⟨cell_step hS2.1 (Below.new (Below.refl _ _) _),cell_step hS2.2.1 (Below.new (Below.refl _ _) _),cell_step hS2.2.2.1 (Below.new (Below.refl _ _) _),cell_step hS2.2.2.2.1 (Below.new (Below.refl _ _) _),cell_step hS2.2.2.2.2.1 (Below.new (Below.refl _ _) _),cell_step hS2.2.2.2.2.2.1 (Below.new (Below.refl _ _) _),cell_step hS2.2.2.2.2.2.2.1 (Below.new (Below.refl _ _) _),cell_step hS2.2.2.2.2.2.2.2.1 (Below.new (Below.refl _ _) _),cell_step hS2.2.2.2.2.2.2.2.2.1 (Below.new (Below.refl _ _) _),cell_step hS2.2.2.2.2.2.2.2.2.2.1 (Below.new (Below.refl _ _) _),cell_step hS2.2.2.2.2.2.2.2.2.2.2.1 (Below.new (Below.refl _ _) _),cell_step hS2.2.2.2.2.2.2.2.2.2.2.2 (Below.new (Below.refl _ _) _)⟩,?_⟩
     refine wpMix_rest [28] (by kernel_rfl) ?_
     simp only [opsAt,Ol]
     go_wp2
     go_meet
     exact ⟨_,b1,k1,_,k2,n2,aw2,lw2,cw2,fr2,till2,al2,ll2,cl2,rfl,HFIN.out _⟩
   ·go_wp2
    have hbn:Below w1.heap.size w1 (w1.alloc (.cells qZ 33)):=Below.new (Below.refl _ _) _
    have hS2:(fun w':World=>w'.cell? ⟨w.heap.size,1,none⟩=some (.slice ba LB bc)∧w'.cell? ⟨w.heap.size,2,none⟩=some (.int .i64 mode)∧w'.cell? ⟨w.heap.size,4,none⟩=some (.int .i64 every)∧w'.cell? ⟨w.heap.size,5,none⟩=some (.int .i64 kind)∧w'.cell? ⟨w.heap.size,6,none⟩=some (.string name)∧w'.cell? ⟨w.heap.size,7,none⟩=some (.slice wa wn wk)∧w'.cell? ⟨w.heap.size,8,none⟩=some (.int .i64 fr)∧w'.cell? ⟨w.heap.size,9,none⟩=some (.int .i64 till)∧w'.cell? ⟨w.heap.size,10,none⟩=some (.slice la ln lc)∧w'.cell? ⟨w.heap.size,11,none⟩=some (.slice ha LH hc)∧w'.cell? ⟨w.heap.size,12,none⟩=some (.slice oa LO oc)∧w'.cell? ⟨w.heap.size,13,none⟩=some (.int .i64 limit)) (w1.alloc (.cells qZ 33)):=⟨cell_step hS1.1 hbn,cell_step hS1.2.1 hbn,cell_step hS1.2.2.1 hbn,cell_step hS1.2.2.2.1 hbn,cell_step hS1.2.2.2.2.1 hbn,cell_step hS1.2.2.2.2.2.1 hbn,cell_step hS1.2.2.2.2.2.2.1 hbn,cell_step hS1.2.2.2.2.2.2.2.1 hbn,cell_step hS1.2.2.2.2.2.2.2.2.1 hbn,cell_step hS1.2.2.2.2.2.2.2.2.2.1 hbn,cell_step hS1.2.2.2.2.2.2.2.2.2.2.1 hbn,cell_step hS1.2.2.2.2.2.2.2.2.2.2.2 hbn⟩
    refine ⟨hS2,?_⟩
    refine wpMix_next (t:=9) (by kernel_rfl) ?_
    simp only [opsAt,Ol]
    go_wp2_with (go_at_call 23;go_loud ((with_reducible refine (HF.out _ Gr).mono ?_);rintro e w2 ⟨cs',rfl,hfc,hb2⟩;obtain ⟨k2,n2,aw2,lw2,cw2,fr2,till2,al2,ll2,cl2,rfl⟩:=hfc.six))
    have hS3:(fun w':World=>w'.cell? ⟨w.heap.size,1,none⟩=some (.slice ba LB bc)∧w'.cell? ⟨w.heap.size,2,none⟩=some (.int .i64 mode)∧w'.cell? ⟨w.heap.size,4,none⟩=some (.int .i64 every)∧w'.cell? ⟨w.heap.size,5,none⟩=some (.int .i64 kind)∧w'.cell? ⟨w.heap.size,6,none⟩=some (.string name)∧w'.cell? ⟨w.heap.size,7,none⟩=some (.slice wa wn wk)∧w'.cell? ⟨w.heap.size,8,none⟩=some (.int .i64 fr)∧w'.cell? ⟨w.heap.size,9,none⟩=some (.int .i64 till)∧w'.cell? ⟨w.heap.size,10,none⟩=some (.slice la ln lc)∧w'.cell? ⟨w.heap.size,11,none⟩=some (.slice ha LH hc)∧w'.cell? ⟨w.heap.size,12,none⟩=some (.slice oa LO oc)∧w'.cell? ⟨w.heap.size,13,none⟩=some (.int .i64 limit)) w2:=⟨cell_step hS2.1 hb2,cell_step hS2.2.1 hb2,cell_step hS2.2.2.1 hb2,cell_step hS2.2.2.2.1 hb2,cell_step hS2.2.2.2.2.1 hb2,cell_step hS2.2.2.2.2.2.1 hb2,cell_step hS2.2.2.2.2.2.2.1 hb2,cell_step hS2.2.2.2.2.2.2.2.1 hb2,cell_step hS2.2.2.2.2.2.2.2.2.1 hb2,cell_step hS2.2.2.2.2.2.2.2.2.2.1 hb2,cell_step hS2.2.2.2.2.2.2.2.2.2.2.1 hb2,cell_step hS2.2.2.2.2.2.2.2.2.2.2.2 hb2⟩
    refine ⟨hS3,?_⟩
    have hB2:Below X.heap.size X w2:=(hbb.step hbn).step hb2
    have hz1:=hbb.size
    have hz2:=hb2.size
    simp only [World.size_alloc] at hz2
    have HFIN:Hid (FewSt w #[.slice aa LA ac,.slice ba LB bc,.int .i64 mode,.slice sa LS sc,.int .i64 every,.int .i64 kind,.string name,.slice wa wn wk,.int .i64 fr,.int .i64 till,.slice la ln lc,.slice ha LH hc,.slice oa LO oc,.int .i64 limit] w1.heap.size qZ (fun b=>(Value.slice b1 N k1).ownBlock=some b∨(w1.heap.size+1≤b∧b<w2.heap.size)) (fun S X=>SlS S X (.slice b1 N k1) N 1 R∧FilS S X 8 [.int .i64 k2,.string n2,.slice aw2 lw2 cw2,.int .i64 fr2,.int .i64 till2,.slice al2 ll2 cl2] FF) w2):=by
     refine ⟨(hB2.block _ (by omega)).trans HX.out.1,(hB2.block _ (by omega)).trans HX.out.2.1,(hb2.block _ (by simp)).trans (heap_at rfl),by omega,fun b hb=> ?_,⟨(SlS.own ho1).keep (fun b h=> .inl h) (fun b _ hl=>(hbn.step hb2).block b hl),hfc.keep (fun b h=> .inr (by simpa using h)) (fun _ _ _=>rfl)⟩,hBX.step hB2⟩
     rcases hb with hb|hb
     ·have:=ho1.lt b hb
      simp only [World.size_drew] at this
      omega
     ·omega
    have fz:∀i,w2.frozen? ⟨w1.heap.size,i,none⟩=false:=fun i=>free_blk HFIN.out.out
    have cz:∀i x,qZ[i]? =some x→w2.cell? ⟨w1.heap.size,i,none⟩=some x:=fun i x h=>cell_blk HFIN.out.out h
    have z0:=fz 0;have y0:=cz 0 _ rfl;have z1:=fz 1;have y1:=cz 1 _ rfl;have z2:=fz 2;have y2:=cz 2 _ rfl;have z3:=fz 3;have y3:=cz 3 _ rfl;have z4:=fz 4;have y4:=cz 4 _ rfl;have z5:=fz 5;have y5:=cz 5 _ rfl;have z6:=fz 6;have y6:=cz 6 _ rfl;have z7:=fz 7;have y7:=cz 7 _ rfl;have z8:=fz 8;have y8:=cz 8 _ rfl;have z9:=fz 9;have y9:=cz 9 _ rfl;have z10:=fz 10;have y10:=cz 10 _ rfl;have z11:=fz 11;have y11:=cz 11 _ rfl;have z12:=fz 12;have y12:=cz 12 _ rfl;have z13:=fz 13;have y13:=cz 13 _ rfl
    clear hB2 hz1 hz2 ho1 hfc hb1 hb2 hbb hS0 hS1 hbn fz cz
    refine wpMix_next (t:=26) (by kernel_rfl) ?_
    simp only [opsAt,Ol]
    go_wp2
    refine ⟨hS3,?_⟩
    refine wpMix_rest [28] (by kernel_rfl) ?_
    simp only [opsAt,Ol]
    go_wp2
    go_meet
    exact ⟨_,b1,k1,_,k2,n2,aw2,lw2,cw2,fr2,till2,al2,ll2,cl2,rfl,few_store (KeepP.sl.and KeepP.fil) HFIN.out ..⟩
  ·go_wp2
   have hbn:Below X.heap.size X (X.drew.alloc (.cells qZ 33)):=hBD.new _
   have hbx:Below X.drew.heap.size X.drew (X.drew.alloc (.cells qZ 33)):=Below.new (Below.refl _ _) _
   have hS1:(fun w':World=>w'.cell? ⟨w.heap.size,1,none⟩=some (.slice ba LB bc)∧w'.cell? ⟨w.heap.size,2,none⟩=some (.int .i64 mode)∧w'.cell? ⟨w.heap.size,4,none⟩=some (.int .i64 every)∧w'.cell? ⟨w.heap.size,5,none⟩=some (.int .i64 kind)∧w'.cell? ⟨w.heap.size,6,none⟩=some (.string name)∧w'.cell? ⟨w.heap.size,7,none⟩=some (.slice wa wn wk)∧w'.cell? ⟨w.heap.size,8,none⟩=some (.int .i64 fr)∧w'.cell? ⟨w.heap.size,9,none⟩=some (.int .i64 till)∧w'.cell? ⟨w.heap.size,10,none⟩=some (.slice la ln lc)∧w'.cell? ⟨w.heap.size,11,none⟩=some (.slice ha LH hc)∧w'.cell? ⟨w.heap.size,12,none⟩=some (.slice oa LO oc)∧w'.cell? ⟨w.heap.size,13,none⟩=some (.int .i64 limit)) (X.drew.alloc (.cells qZ 33)):=⟨cell_step hS0.1 hbx,cell_step hS0.2.1 hbx,cell_step hS0.2.2.1 hbx,cell_step hS0.2.2.2.1 hbx,cell_step hS0.2.2.2.2.1 hbx,cell_step hS0.2.2.2.2.2.1 hbx,cell_step hS0.2.2.2.2.2.2.1 hbx,cell_step hS0.2.2.2.2.2.2.2.1 hbx,cell_step hS0.2.2.2.2.2.2.2.2.1 hbx,cell_step hS0.2.2.2.2.2.2.2.2.2.1 hbx,cell_step hS0.2.2.2.2.2.2.2.2.2.2.1 hbx,cell_step hS0.2.2.2.2.2.2.2.2.2.2.2 hbx⟩
   refine ⟨hS1,?_⟩
   refine wpMix_next (t:=2) (by kernel_rfl) ?_
   simp only [opsAt,Ol]
   go_wp2_with (go_at_call 22;go_loud ((with_reducible refine (HN.out _ Gr).mono ?_);rintro e w1 ⟨v1,rfl,ho1,hb1⟩;obtain ⟨b1,k1,rfl,_⟩:=SlAt.shape (SlAt.own ho1)))
   have hbb:=hbn.step hb1
   have hS2:(fun w':World=>w'.cell? ⟨w.heap.size,1,none⟩=some (.slice ba LB bc)∧w'.cell? ⟨w.heap.size,2,none⟩=some (.int .i64 mode)∧w'.cell? ⟨w.heap.size,4,none⟩=some (.int .i64 every)∧w'.cell? ⟨w.heap.size,5,none⟩=some (.int .i64 kind)∧w'.cell? ⟨w.heap.size,6,none⟩=some (.string name)∧w'.cell? ⟨w.heap.size,7,none⟩=some (.slice wa wn wk)∧w'.cell? ⟨w.heap.size,8,none⟩=some (.int .i64 fr)∧w'.cell? ⟨w.heap.size,9,none⟩=some (.int .i64 till)∧w'.cell? ⟨w.heap.size,10,none⟩=some (.slice la ln lc)∧w'.cell? ⟨w.heap.size,11,none⟩=some (.slice ha LH hc)∧w'.cell? ⟨w.heap.size,12,none⟩=some (.slice oa LO oc)∧w'.cell? ⟨w.heap.size,13,none⟩=some (.int .i64 limit)) w1:=⟨cell_step hS1.1 hb1,cell_step hS1.2.1 hb1,cell_step hS1.2.2.1 hb1,cell_step hS1.2.2.2.1 hb1,cell_step hS1.2.2.2.2.1 hb1,cell_step hS1.2.2.2.2.2.1 hb1,cell_step hS1.2.2.2.2.2.2.1 hb1,cell_step hS1.2.2.2.2.2.2.2.1 hb1,cell_step hS1.2.2.2.2.2.2.2.2.1 hb1,cell_step hS1.2.2.2.2.2.2.2.2.2.1 hb1,cell_step hS1.2.2.2.2.2.2.2.2.2.2.1 hb1,cell_step hS1.2.2.2.2.2.2.2.2.2.2.2 hb1⟩
   refine ⟨hS2,?_⟩
   refine wpMix_next (t:=9) (by kernel_rfl) ?_
   simp only [opsAt,Ol]
   go_wp2_with (go_at_call 23;go_loud ((with_reducible refine (HF.out _ Gr).mono ?_);rintro e w2 ⟨cs',rfl,hfc,hb2⟩;obtain ⟨k2,n2,aw2,lw2,cw2,fr2,till2,al2,ll2,cl2,rfl⟩:=hfc.six))
   have hS3:(fun w':World=>w'.cell? ⟨w.heap.size,1,none⟩=some (.slice ba LB bc)∧w'.cell? ⟨w.heap.size,2,none⟩=some (.int .i64 mode)∧w'.cell? ⟨w.heap.size,4,none⟩=some (.int .i64 every)∧w'.cell? ⟨w.heap.size,5,none⟩=some (.int .i64 kind)∧w'.cell? ⟨w.heap.size,6,none⟩=some (.string name)∧w'.cell? ⟨w.heap.size,7,none⟩=some (.slice wa wn wk)∧w'.cell? ⟨w.heap.size,8,none⟩=some (.int .i64 fr)∧w'.cell? ⟨w.heap.size,9,none⟩=some (.int .i64 till)∧w'.cell? ⟨w.heap.size,10,none⟩=some (.slice la ln lc)∧w'.cell? ⟨w.heap.size,11,none⟩=some (.slice ha LH hc)∧w'.cell? ⟨w.heap.size,12,none⟩=some (.slice oa LO oc)∧w'.cell? ⟨w.heap.size,13,none⟩=some (.int .i64 limit)) w2:=⟨cell_step hS2.1 hb2,cell_step hS2.2.1 hb2,cell_step hS2.2.2.1 hb2,cell_step hS2.2.2.2.1 hb2,cell_step hS2.2.2.2.2.1 hb2,cell_step hS2.2.2.2.2.2.1 hb2,cell_step hS2.2.2.2.2.2.2.1 hb2,cell_step hS2.2.2.2.2.2.2.2.1 hb2,cell_step hS2.2.2.2.2.2.2.2.2.1 hb2,cell_step hS2.2.2.2.2.2.2.2.2.2.1 hb2,cell_step hS2.2.2.2.2.2.2.2.2.2.2.1 hb2,cell_step hS2.2.2.2.2.2.2.2.2.2.2.2 hb2⟩
   refine ⟨hS3,?_⟩
   have hB2:Below X.heap.size X w2:=hbb.step hb2
   have hz1:=hb1.size
   have hz2:=hb2.size
   simp only [World.size_alloc,World.size_drew] at hz1
   have HFIN:Hid (FewSt w #[.slice aa LA ac,.slice ba LB bc,.int .i64 mode,.slice sa LS sc,.int .i64 every,.int .i64 kind,.string name,.slice wa wn wk,.int .i64 fr,.int .i64 till,.slice la ln lc,.slice ha LH hc,.slice oa LO oc,.int .i64 limit] (w.heap.size+1+1) qZ (fun b=>(Value.slice b1 N k1).ownBlock=some b∨(w1.heap.size≤b∧b<w2.heap.size)) (fun S X=>SlS S X (.slice b1 N k1) N 1 R∧FilS S X 8 [.int .i64 k2,.string n2,.slice aw2 lw2 cw2,.int .i64 fr2,.int .i64 till2,.slice al2 ll2 cl2] FF) w2):=by
    refine ⟨(hB2.block _ (by omega)).trans HX.out.1,(hB2.block _ (by omega)).trans HX.out.2.1,(hb2.block _ (by omega)).trans ((hb1.block _ (by simp only [World.size_drew,World.size_alloc];omega)).trans (heap_at (w:=X) hzX.symm)),Nat.le_refl _,fun b hb=> ?_,⟨(SlS.own ho1).keep (fun b h=> .inl h) (fun b _ hl=>hb2.block b hl),hfc.keep (fun b h=> .inr h) (fun _ _ _=>rfl)⟩,hBX.step hB2⟩
    rcases hb with hb|hb
    ·have:=ho1.lt b hb
     simp only [World.size_drew,World.size_alloc] at this
     omega
    ·omega
   have fz:∀i,w2.frozen? ⟨w.heap.size+1+1,i,none⟩=false:=fun i=>free_blk HFIN.out.out
   have cz:∀i x,qZ[i]? =some x→w2.cell? ⟨w.heap.size+1+1,i,none⟩=some x:=fun i x h=>cell_blk HFIN.out.out h
   have z0:=fz 0;have y0:=cz 0 _ rfl;have z1:=fz 1;have y1:=cz 1 _ rfl;have z2:=fz 2;have y2:=cz 2 _ rfl;have z3:=fz 3;have y3:=cz 3 _ rfl;have z4:=fz 4;have y4:=cz 4 _ rfl;have z5:=fz 5;have y5:=cz 5 _ rfl;have z6:=fz 6;have y6:=cz 6 _ rfl;have z7:=fz 7;have y7:=cz 7 _ rfl;have z8:=fz 8;have y8:=cz 8 _ rfl;have z9:=fz 9;have y9:=cz 9 _ rfl;have z10:=fz 10;have y10:=cz 10 _ rfl;have z11:=fz 11;have y11:=cz 11 _ rfl;have z12:=fz 12;have y12:=cz 12 _ rfl;have z13:=fz 13;have y13:=cz 13 _ rfl
   clear hB2 hz1 hz2 ho1 hfc hb1 hb2 hbb hS0 hS1 hbn hbx fz cz
   refine wpMix_next (t:=26) (by kernel_rfl) ?_
   simp only [opsAt,Ol]
   go_wp2
   refine ⟨hS3,?_⟩
   refine wpMix_rest [28] (by kernel_rfl) ?_
   simp only [opsAt,Ol]
   go_wp2
   go_meet
   exact ⟨_,b1,k1,_,k2,n2,aw2,lw2,cw2,fr2,till2,al2,ll2,cl2,rfl,few_store (KeepP.sl.and KeepP.fil) HFIN.out ..⟩
 case rest=>
  obtain ⟨P,b1,k1,S',k2,n2,aw2,lw2,cw2,fr2,till2,al2,ll2,cl2,rfl,hst⟩:=hcut
  obtain ⟨K,hKe⟩:∃K,(fun (S:Nat→Prop) (X:World)=>SlS S X (.slice b1 N k1) N 1 R∧FilS S X 8 [.int .i64 k2,.string n2,.slice aw2 lw2 cw2,.int .i64 fr2,.int .i64 till2,.slice al2 ll2 cl2] FF)=K:=⟨_,rfl⟩
  have HK:Hid (KeepP K):=by unfold Hid;rw [←hKe];exact KeepP.sl.and KeepP.fil
  rw [hKe] at hst
  replace hKe:=hid hKe
  have HST:=hid hst
  have zP:w.heap.size+1+1≤P:=hst.lo
  clear hst HX hBX hzX x0 x1 HF HN q1 q2 q3 q4 q5 q6
  obtain ⟨ig,hig,hgz0,hgz1,hgz2⟩:=info_parts info_agg
  obtain ⟨is,his,hsz0,hsz1,hsz2⟩:=info_parts info_strs
  obtain ⟨NA,hNA⟩:∃N,min LA 10=N:=⟨_,rfl⟩
  have HNA:=hid hNA
  have HCA:Hid ((NA=LA∨NA=10)∧NA≤LA∧NA≤10):=by unfold Hid;omega
  obtain ⟨RA,hRA⟩:∃R,((d.aggs.take 10).map cutA).flatMap AggD.cells=R:=⟨_,rfl⟩
  have HRA0:=hid hRA
  have HRA:Hid (((d.aggs.take NA).map cutA).flatMap AggD.cells=RA):=by
   unfold Hid
   rw [←hRA,←hNA,HLA.out]
   by_cases h:d.aggs.length≤10
   ·rw [List.take_of_length_le (by omega),List.take_of_length_le (by omega)]
   ·rw [Nat.min_eq_right (by omega)]
  clear hRA hNA
  go_upto_block 0 with fail
  go_cut [4] from 33 to 70 (fun s4 wx=>∃(ao:Option Addr) (cap:Nat) (S2:Nat→Prop),FewSt w #[.slice aa LA ac,.slice ba LB bc,.int .i64 mode,.slice sa LS sc,.int .i64 every,.int .i64 kind,.string name,.slice wa wn wk,.int .i64 fr,.int .i64 till,.slice la ln lc,.slice ha LH hc,.slice oa LO oc,.int .i64 limit] P (outQ (.slice ao NA cap) (.slice b1 N k1) mode (.slice none 0 0) every (k2) (n2) (.slice aw2 lw2 cw2) (fr2) (till2) (.slice al2 ll2 cl2) (.slice ha M1 hc) (.slice oa M2 oc) limit) S2 (fun S X=>K S X∧SlS S X (.slice ao NA cap) NA 2 RA) wx)
  case first=>
   go_wp2_with fail
   go_loopw [4] (fun iv wr=>∃(j:Nat) (ao:Option Addr) (cap:Nat),j≤NA∧iv= .int .i64 (j:Nat)∧FewSt w #[.slice aa LA ac,.slice ba LB bc,.int .i64 mode,.slice sa LS sc,.int .i64 every,.int .i64 kind,.string name,.slice wa wn wk,.int .i64 fr,.int .i64 till,.slice la ln lc,.slice ha LH hc,.slice oa LO oc,.int .i64 limit] P (outQ (.slice ao j cap) (.slice b1 N k1) mode (.slice none 0 0) every (k2) (n2) (.slice aw2 lw2 cw2) (fr2) (till2) (.slice al2 ll2 cl2) (.slice ha M1 hc) (.slice oa M2 oc) limit) S' K wr∧wr.ownsRow (P+1) 71 2 (.slice ao j cap) j (((d.aggs.take j).map cutA).flatMap AggD.cells)∧(∀b,S' b→(Value.slice ao j cap).ownBlock≠some b)) (fun iv _=>NA-(intOf iv).toNat)
   case atStart=>exact ⟨0,none,0,Nat.zero_le _,rfl,HST.out,World.ownsRow_nil _ _ _ _,fun b _=>by simp [Value.ownBlock]⟩
   case round=>
    obtain ⟨j,ao,cap,hj,rfl,hst,hown,hne⟩:=hrel
    have g1:(0:Int)≤(j:Int):=Int.natCast_nonneg _
    have u0:wr.cell? ⟨w.heap.size,0,none⟩=some (.slice aa LA ac):=cell_blk hst.q rfl
    have u1:wr.cell? ⟨P,0,none⟩=some (.slice ao j cap):=cell_blk hst.out rfl
    have zP2:=lt_of_block hst.out
    have zw:w.heap.size<wr.heap.size:=by omega
    by_cases hjN:j<NA
    ·have hjL:j<LA:=by have:=HCA.out;omega
     have hj10:j<10:=by have:=HCA.out;omega
     have hlen:j<d.aggs.length:=by rw [←HLA.out];exact hjL
     obtain ⟨b,off,rfl,hcell⟩:=HA4.out (by rw [flat_len 2 _ AggD.cells_len];omega)
     have ck0:w.cell? ⟨b,off+j*2,none⟩=some (.int .i64 d.aggs[j].kind):=hcell _ _ ((flat_at 2 _ AggD.cells_len d.aggs j 0 (by decide) hlen).trans rfl)
     have ck1:w.cell? ⟨b,off+j*2+1,none⟩=some (.string d.aggs[j].metric):=hcell _ _ ((flat_at 2 _ AggD.cells_len d.aggs j 1 (by decide) hlen).trans rfl)
     have dk0:=cell_step ck0 hst.bel;have dk1:=cell_step ck1 hst.bel
     have hzs:=(HOK.out.aggs _ (List.getElem_mem hlen)).2
     have HT:=hid (AggD.take_snoc hlen)
     generalize d.aggs[j].kind=kd at*
     generalize d.aggs[j].metric=s at*
     have z3:b<wr.heap.size:=World.block_lt_of_cell? _ _ dk0
     have z4:b<w.heap.size:=World.block_lt_of_cell? _ _ ck0
     have HS:=hid hst;have HO:=hid hown;have HNE:=hid hne
     clear hcell ck0 ck1 hst hown hne
     have g2:(j:Int)<(LA:Int):=by omega
     have r1:(0:Int)≤min (s.size:Int) 30:=by omega
     have r2:min (s.size:Int) 30≤(s.size:Int):=by omega
     have r3:s.extract 0 (min (s.size:Int) 30).toNat=cutS 30 s:=cutS_is 30 s
     go_wp2
     have hS0:(fun w':World=>w'.cell? ⟨w.heap.size,0,none⟩=some (.slice (some ⟨b,off,none⟩) LA ac)∧w'.cell? ⟨P,0,none⟩=some (.slice ao j cap)∧w'.cell? ⟨b,off+j*2,none⟩=some (.int .i64 kd)∧w'.cell? ⟨b,off+j*2+1,none⟩=some (.string s)) wr.drew:=⟨u0,u1,dk0,dk1⟩
     refine wp_region_some (fun w':World=>w'.cell? ⟨w.heap.size,0,none⟩=some (.slice (some ⟨b,off,none⟩) LA ac)∧w'.cell? ⟨P,0,none⟩=some (.slice ao j cap)∧w'.cell? ⟨b,off+j*2,none⟩=some (.int .i64 kd)∧w'.cell? ⟨b,off+j*2+1,none⟩=some (.string s)) [25,26,27] (by kernel_rfl) ?_
     refine Tk 0 hS0 ?_
     refine Tk 1 hS0 ?_
     refine Tk 2 hS0 ?_
     refine Tk 3 hS0 ?_
     refine Tk 4 hS0 ?_
     refine Tk 5 hS0 ?_
     refine Tk 6 hS0 ?_
     refine Tk 7 hS0 ?_
     refine Tk 8 hS0 ?_
     refine Tk 9 hS0 ?_
     refine Tk 10 hS0 ?_
     refine Tk 11 hS0 ?_
     refine Tk 12 hS0 ?_
     refine Tk 13 hS0 ?_
     refine Tk 14 hS0 ?_
     refine Tk 15 hS0 ?_
     refine Tk 16 hS0 ?_
     refine Tk 17 hS0 ?_
     refine Tk 18 hS0 ?_
     refine Tk 19 hS0 ?_
     refine Tk 20 hS0 ?_
     refine Tk 21 hS0 ?_
     refine Tk 22 hS0 ?_
     refine Tk 23 hS0 ?_
     refine wpMix_next (t:=24) (by kernel_rfl) ?_
     simp only [opsAt,Ol]
     go_wp2
     refine ⟨⟨by go_simp,by go_simp,by go_simp,by go_simp⟩,?_⟩
     refine wpMix_rest [25,26,27] (by kernel_rfl) ?_
     simp only [opsAt,Ol]
     go_wp2_with (at_builtin;go_loud (refine wpList_append_sl _ rfl _ _ 22 rfl (P+1) 71 ig (.agg #[.int .i64 0,.string { data:= #[]}]) 2 24 Tryz.underlying22 hig hgz0 hgz1 hgz2 rfl (by decide) _ j _ rfl ((HO.out.alloc _).drew) (.slice (some ⟨wr.heap.size,0,none⟩) 1 1) 1 [.int .i64 kd,.string (cutS 30 s)] rfl ((SlAt.new wr #[.int .i64 kd,.string (cutS 30 s)] 71).drew) (by simp [Value.oneCell']) (by unfold maxLen;omega) (by omega) (by simp;omega) ?_);intro va w1 hown1 hgrow1 hb1;have hW:=HS.out.below HK.out (show Below wr.heap.size wr (wr.alloc (.cells #[.int .i64 kd,.string (cutS 30 s)] 71)).drew by exact Gr);have y2:=own_blk ((HO.out.alloc _).drew) hgrow1 (by omega) hW.out;have c2:=cell_blk (i:=0) y2 rfl;have f2:=free_blk (i:=0) y2;obtain ⟨qo,qc,qe,_⟩:=SlAt.shape (SlAt.own hown1);subst qe)
     go_roundw
     case rel=>
      refine ⟨j+1,qo,qc,hjN,by go_num,few_grow HK.out hW ((HO.out.alloc _).drew) hgrow1 HNE.out 0 _,by rw [HT.out];exact row_far hown1 (by omega),fun b hb e=> ?_⟩
      rcases hb1 with h|h
      ·exact HNE.out b hb (h.symm.trans e)
      ·rw [h] at e
       have:=(HS.out.sb b hb).2.1
       simp only [Option.some.injEq,World.size_alloc,World.size_drew] at e
       omega
     case measure=>simp [intOf];omega
    ·obtain rfl:j=NA:=by omega
     rw [HRA.out] at hown
     have hfin:∃(ao:Option Addr) (cap:Nat) (S2:Nat→Prop),FewSt w #[.slice aa LA ac,.slice ba LB bc,.int .i64 mode,.slice sa LS sc,.int .i64 every,.int .i64 kind,.string name,.slice wa wn wk,.int .i64 fr,.int .i64 till,.slice la ln lc,.slice ha LH hc,.slice oa LO oc,.int .i64 limit] P (outQ (.slice ao j cap) (.slice b1 N k1) mode (.slice none 0 0) every (k2) (n2) (.slice aw2 lw2 cw2) (fr2) (till2) (.slice al2 ll2 cl2) (.slice ha M1 hc) (.slice oa M2 oc) limit) S2 (fun S X=>K S X∧SlS S X (.slice ao j cap) j 2 RA) wr:=
      ⟨ao,cap,fun b=>S' b∨(Value.slice ao j cap).ownBlock=some b,hst.mono (fun b hb=>by
       rcases hb with hb|hb
       ·exact hst.sb b hb
       ·have:=hown.lt b hb;omega) ⟨HK.out _ _ _ _ (fun b h=> .inl h) (fun _ _ _=>rfl) hst.k,(SlS.own hown).keep (fun b h=> .inr h) (fun _ _ _=>rfl)⟩⟩
     have hex:LA=j∨(j<LA∧j=10):=by have:=HCA.out;omega
     have HEX:=hid hex;have HF:=hid hfin
     clear hex hown hst hne hfin
     rcases HEX.out with h|⟨h,h10⟩
     ·by_cases h10:j=10
      ·subst h10
       subst h
       go_wp2
       go_meet
       case rel=>exact HF.out
      ·subst h
       go_wp2
       go_meet
       case rel=>exact HF.out
     ·subst h10
      go_wp2
      go_meet
      case rel=>exact HF.out
  case rest=>
   obtain ⟨a1,ka,S2,hst⟩:=hcut
   obtain ⟨K2,hK2e⟩:∃K2,(fun (S:Nat→Prop) (X:World)=>K S X∧SlS S X (.slice a1 NA ka) NA 2 RA)=K2:=⟨_,rfl⟩
   have HK2:Hid (KeepP K2):=by unfold Hid;rw [←hK2e];exact HK.out.and KeepP.sl
   rw [hK2e] at hst
   replace hK2e:=hid hK2e
   have HST2:=hid hst
   clear hst HST
   obtain ⟨SC,hSC⟩:∃S,(d.sets.take 10).map cutN=S:=⟨_,rfl⟩
   obtain ⟨NS,hNS⟩:∃N,min LS 10=N:=⟨_,rfl⟩
   have HNS:=hid hNS
   have HCS:Hid ((NS=LS∨NS=10)∧NS≤LS∧NS≤10):=by unfold Hid;omega
   have HSL:Hid (SC.length=NS):=by unfold Hid;rw [←hSC,List.length_map,List.length_take,←hNS,HLS.out,Nat.min_comm]
   have HSG:Hid (∀j (h:j<d.sets.length),j<10→SC[j]? =some (cutN d.sets[j])):=fun j h h10=>by rw [←hSC,List.getElem?_map,List.getElem?_take_of_lt h10,List.getElem?_eq_getElem h];rfl
   replace hSC:=hid hSC
   clear hNS
   go_wp2_with fail
   go_loopw [5] (fun iv wr=>∃(j:Nat) (so:Option Addr) (cap:Nat) (S3:Nat→Prop) (vs':List Value),j≤NS∧iv= .int .i64 (j:Nat)∧FewSt w #[.slice aa LA ac,.slice ba LB bc,.int .i64 mode,.slice sa LS sc,.int .i64 every,.int .i64 kind,.string name,.slice wa wn wk,.int .i64 fr,.int .i64 till,.slice la ln lc,.slice ha LH hc,.slice oa LO oc,.int .i64 limit] P (outQ (.slice a1 NA ka) (.slice b1 N k1) mode (.slice so j cap) every (k2) (n2) (.slice aw2 lw2 cw2) (fr2) (till2) (.slice al2 ll2 cl2) (.slice ha M1 hc) (.slice oa M2 oc) limit) S3 (fun S X=>K2 S X∧KV SC vs' S X) wr∧wr.ownsRow (P+1) 23 1 (.slice so j cap) j vs'∧(∀b,S3 b→(Value.slice so j cap).ownBlock≠some b)) (fun iv _=>NS-(intOf iv).toNat)
   case atStart=>exact ⟨0,none,0,S2,[],Nat.zero_le _,rfl,HST2.out.mono HST2.out.sb ⟨HST2.out.k,fun i x ss h=>by simp at h⟩,World.ownsRow_nil _ _ _ _,fun b _=>by simp [Value.ownBlock]⟩
   case round=>
    obtain ⟨j,so,cap,S3,vs',hj,rfl,hst,hown,hne⟩:=hrel
    have g1:(0:Int)≤(j:Int):=Int.natCast_nonneg _
    have u0:wr.cell? ⟨w.heap.size,3,none⟩=some (.slice sa LS sc):=cell_blk hst.q rfl
    have u1:wr.cell? ⟨P,3,none⟩=some (.slice so j cap):=cell_blk hst.out rfl
    have zP2:=lt_of_block hst.out
    have zw:w.heap.size<wr.heap.size:=by omega
    by_cases hjN:j<NS
    ·have hjL:j<LS:=by have:=HCS.out;omega
     have hj10:j<10:=by have:=HCS.out;omega
     have hlen:j<d.sets.length:=by rw [←HLS.out];exact hjL
     have hlv:j<vs.length:=by rw [HVS.out.1];exact hlen
     obtain ⟨b,off,rfl,hcell⟩:=HS4.out (by omega)
     have ck:=hcell j _ (List.getElem?_eq_getElem hlv)
     have hstr:=HVS.out.2 j hlen _ (List.getElem?_eq_getElem hlv)
     obtain ⟨sj,cj,he,_⟩:=SlAt.shape hstr
     rw [he] at ck hstr
     have HNJ:=hid (fun W (h:Below w.heap.size w W)=>names15_any _ d.sets[j] W (hstr.below h) (HOK.out.sets _ (List.getElem_mem hlen)))
     have HG:=hid (HSG.out j hlen hj10)
     have dk:=cell_step ck hst.bel
     have z3:b<wr.heap.size:=World.block_lt_of_cell? _ _ dk
     have HS:=hid hst;have HO:=hid hown;have HNE:=hid hne
     have hbw0:=hst.bel
     generalize d.sets[j]=ss at*
     obtain ⟨N3,hN3⟩:∃N,min ss.length 10=N:=⟨_,rfl⟩
     obtain ⟨R3,hR3⟩:∃R,strsV ((ss.take 10).map (cutS 30))=R:=⟨_,rfl⟩
     rw [hN3,hR3] at HNJ
     replace hN3:=hid hN3;replace hR3:=hid hR3
     clear hcell ck hstr he hst hown hne
     have g2:(j:Int)<(LS:Int):=by omega
     go_wp2
     have hS0:(fun w':World=>w'.cell? ⟨w.heap.size,3,none⟩=some (.slice (some ⟨b,off,none⟩) LS sc)∧w'.cell? ⟨P,3,none⟩=some (.slice so j cap)∧w'.cell? ⟨b,off+j,none⟩=some (.slice sj ss.length cj)) wr.drew:=⟨u0,u1,dk⟩
     refine wp_region_some (fun w':World=>w'.cell? ⟨w.heap.size,3,none⟩=some (.slice (some ⟨b,off,none⟩) LS sc)∧w'.cell? ⟨P,3,none⟩=some (.slice so j cap)∧w'.cell? ⟨b,off+j,none⟩=some (.slice sj ss.length cj)) [9,10,11] (by kernel_rfl) ?_
     refine Tk 0 hS0 ?_
     refine Tk 1 hS0 ?_
     refine Tk 2 hS0 ?_
     refine Tk 3 hS0 ?_
     refine Tk 4 hS0 ?_
     refine Tk 5 hS0 ?_
     refine Tk 6 hS0 ?_
     refine wpMix_next (t:=7) (by kernel_rfl) ?_
     simp only [opsAt,Ol]
     go_wp2_with (go_at_call 22;go_loud ((with_reducible refine (HNJ.out _ Gr).mono ?_);rintro e w1 ⟨v1,rfl,ho1,hb1⟩;obtain ⟨b3,k3,rfl,_⟩:=SlAt.shape (SlAt.own ho1)))
     have hbw:Below wr.heap.size wr w1:=(Below.drew (Below.refl _ _)).trans hb1
     have hzw:=hbw.size
     refine ⟨⟨cell_step hS0.1 hb1,cell_step hS0.2.1 hb1,cell_step hS0.2.2 hb1⟩,?_⟩
     have v0:=cell_step u0 hbw;have v1':=cell_step u1 hbw;have d0:=cell_step dk hbw
     have zc0:w.heap.size<w1.heap.size:=by omega
     have zcP:P<w1.heap.size:=by omega
     have zcb:b<w1.heap.size:=by omega
     have HO1:=hid (row_below HO.out hbw)
     have HST3:Hid (FewSt w #[.slice aa LA ac,.slice ba LB bc,.int .i64 mode,.slice (some ⟨b,off,none⟩) LS sc,.int .i64 every,.int .i64 kind,.string name,.slice wa wn wk,.int .i64 fr,.int .i64 till,.slice la ln lc,.slice ha LH hc,.slice oa LO oc,.int .i64 limit] P (outQ (.slice a1 NA ka) (.slice b1 N k1) mode (.slice so j cap) every (k2) (n2) (.slice aw2 lw2 cw2) (fr2) (till2) (.slice al2 ll2 cl2) (.slice ha M1 hc) (.slice oa M2 oc) limit) (fun b=>S3 b∨(Value.slice b3 N3 k3).ownBlock=some b) (fun S X=>K2 S X∧KV SC (vs'++[.slice b3 N3 k3]) S X) w1):=by
      have hb:=HS.out.below (HK2.out.and KV.keep) hbw
      have hl:=HO.out.1
      refine hb.mono (fun b h=> ?_) ⟨HK2.out _ _ _ _ (fun b h=> .inl h) (fun _ _ _=>rfl) hb.k.1,fun i x ss' hi hs=> ?_⟩
      ·rcases h with h|h
       ·exact hb.sb b h
       ·have:=ho1.lt b h
        simp only [World.size_drew] at this
        omega
      ·by_cases hij:i<j
       ·rw [List.getElem?_append_left (by omega)] at hi
        exact (hb.k.2 i x ss' hi hs).keep (fun b h=> .inl h) (fun _ _ _=>rfl)
       ·have hij2:i=j:=by
         have:=(List.getElem?_eq_some_iff.1 hi).1
         rw [List.length_append] at this
         simp at this
         omega
        subst hij2
        rw [List.getElem?_append_right (by omega),hl,Nat.mul_one,Nat.sub_self] at hi
        obtain rfl:=Option.some.inj hi
        rw [HG.out] at hs
        obtain rfl:=Option.some.inj hs
        have e1:(cutN ss).length=N3:=by unfold cutN;rw [List.length_map,List.length_take,←hN3.out,Nat.min_comm]
        have e2:strsV (cutN ss)=R3:=hR3.out
        rw [e1,e2]
        exact (SlS.own ho1).keep (fun b h=> .inr h) (fun _ _ _=>rfl)
     have HNE3:Hid (∀b,(S3 b∨(Value.slice b3 N3 k3).ownBlock=some b)→(Value.slice so j cap).ownBlock≠some b):=fun b h e=>by
      rcases h with h|h
      ·exact HNE.out b h e
      ·have h1:=(ho1.lt b h).1
       have h2:=(HO.out.lt b e).2
       simp only [World.size_drew] at h1
       omega
     clear hbw hb1 hS0 ho1
     refine wpMix_next (t:=8) (by kernel_rfl) ?_
     simp only [opsAt,Ol]
     go_wp2
     refine ⟨⟨by go_simp,by go_simp,by go_simp⟩,?_⟩
     refine wpMix_rest [9,10,11] (by kernel_rfl) ?_
     simp only [opsAt,Ol]
     go_wp2_with (at_builtin;go_loud (refine wpList_append_sl _ rfl _ _ 24 rfl (P+1) 23 is (.slice none 0 0) 1 24 Tryz.underlying24 his hsz0 hsz1 hsz2 rfl (by decide) _ j _ rfl (HO1.out.alloc _) (.slice (some ⟨w1.heap.size,0,none⟩) 1 1) 1 [.slice b3 N3 k3] rfl (SlAt.new w1 #[.slice b3 N3 k3] 23) (by simp [Value.oneCell']) (by unfold maxLen;omega) (by omega) (by simp;omega) ?_);intro va w4 hown1 hgrow1 hb1;have hW:=HST3.out.below (HK2.out.and KV.keep) (show Below w1.heap.size w1 (w1.alloc (.cells #[.slice b3 N3 k3] 23)) by exact Gr);have y2:=own_blk (HO1.out.alloc _) hgrow1 (by omega) hW.out;have c2:=cell_blk (i:=3) y2 rfl;have f2:=free_blk (i:=3) y2;obtain ⟨qo,qc,qe,_⟩:=SlAt.shape (SlAt.own hown1);subst qe)
     go_roundw
     case rel=>
      refine ⟨j+1,qo,qc,_,_,hjN,by go_num,few_grow (HK2.out.and KV.keep) hW (HO1.out.alloc _) hgrow1 HNE3.out 3 _,row_far hown1 (by omega),fun b hb e=> ?_⟩
      rcases hb1 with h|h
      ·exact HNE3.out b hb (h.symm.trans e)
      ·rw [h] at e
       have:=(HST3.out.sb b hb).2.1
       simp only [Option.some.injEq,World.size_alloc] at e
       omega
     case measure=>simp [intOf];omega
    ·obtain rfl:j=NS:=by omega
     have hex:LS=j∨(j<LS∧j=10):=by have:=HCS.out;omega
     have HFIN:Hid (∀W:World,(∀b,b≠w.heap.size+1→W.heap[b]? =wr.heap[b]?)→Below w.heap.size w W→∃q',Ending.returned (.agg (outQ (.slice a1 NA ka) (.slice b1 N k1) mode (.slice so j cap) every (k2) (n2) (.slice aw2 lw2 cw2) (fr2) (till2) (.slice al2 ll2 cl2) (.slice ha M1 hc) (.slice oa M2 oc) limit))= .returned (.agg q'.cells)∧QryN (fun b=>S0 b∧b<w.heap.size∨w.heap.size+1+1≤b) W q' (fewQ d)∧Below w.heap.size w W):=fun W hW hB=>by
      have hT:∀b,S3 b→(S0 b∧b<w.heap.size∨w.heap.size+1+1≤b):=fun b hb=> .inr (hst.sb b hb).1
      have hT2:∀b,(Value.slice so j cap).ownBlock=some b→(S0 b∧b<w.heap.size∨w.heap.size+1+1≤b):=fun b hb=> .inr (by have:=(hown.lt b hb).1;omega)
      have hk:=(HK2.out.and KV.keep) _ S3 _ W (fun b h=>h) (fun b hb _=>hW b (by have:=(hst.sb b hb).1;omega)) hst.k
      have hrow:=(SlS.own hown).keep (T:=fun b=>(Value.slice so j cap).ownBlock=some b) (w':=W) (fun b h=>h) (fun b hb _=>hW b (by have:=(hown.lt b hb).1;omega))
      obtain ⟨hk2,hkv⟩:=hk
      have e2:=hK2e.out
      have e1:=hKe.out
      subst e2
      subst e1
      obtain ⟨⟨hby,hfil⟩,hag⟩:=hk2
      have hq:=HQ.out
      have la:((d.aggs.take 10).map cutA).length=NA:=by rw [List.length_map,List.length_take,←HNA.out,HLA.out,Nat.min_comm]
      have lb:(cutN d.by_).length=N:=by unfold cutN;rw [List.length_map,List.length_take,←hN.out,Nat.min_comm]
      have hlv:vs'.length=j:=by have:=hown.1;omega
      refine ⟨⟨a1,NA,ka,b1,N,k1,mode,so,j,cap,every,k2,n2,aw2,lw2,cw2,fr2,till2,al2,ll2,cl2,ha,M1,hc,oa,M2,oc,limit⟩,rfl,⟨?_,?_,HM.out,?_,HE.out,⟨8,?_⟩,?_,?_,HL.out⟩,hB⟩
      ·show SlS _ W _ _ 2 _
       unfold fewQ
       dsimp only
       rw [la,HRA0.out]
       exact hag.keep hT (fun _ _ _=>rfl)
      ·show SlS _ W _ _ 1 _
       unfold fewQ
       dsimp only
       rw [lb,show strsV (cutN d.by_)=R from hR.out]
       exact hby.keep hT (fun _ _ _=>rfl)
      ·refine ⟨vs',?_,?_,fun i hi x hx=> ?_⟩
       ·show vs'.length=((d.sets.take 10).map cutN).length
        rw [hSC.out,hlv,HSL.out]
       ·show SlS _ W _ ((d.sets.take 10).map cutN).length 1 _
        rw [hSC.out,HSL.out]
        exact hrow.keep hT2 (fun _ _ _=>rfl)
       ·have hi2:i<SC.length:=by rw [←hSC.out];exact hi
        have e:(fewQ d).sets[i]=SC[i]:=by
         have:=hSC.out
         subst this
         rfl
        rw [e]
        exact (hkv i x _ hx (List.getElem?_eq_getElem hi2)).keep hT (fun _ _ _=>rfl)
      ·show FilS _ W 8 _ (fewF d.wher)
       rw [hFF.out]
       exact hfil.keep hT (fun _ _ _=>rfl)
      ·have h1:=HQN.out.1
       rw [show LH=d.having.length from HLH.out] at h1
       have h2:=SlS.take_flat CondD.cells 3 CondD.cells_len h1 10
       rw [←HLH.out,hM1.out] at h2
       exact h2.keep (fun b h=> .inl h) (fun b hb _=>hB.block b hb.2)
      ·have h1:=HQN.out.2
       rw [show LO=d.order.length from HLO.out] at h1
       have h2:=SlS.take_flat KeyD.cells 3 KeyD.cells_len h1 10
       rw [←HLO.out,hM2.out] at h2
       exact h2.keep (fun b h=> .inl h) (fun b hb _=>hB.block b hb.2)
     have c0:=cell_blk (i:=0) hst.out rfl;have e0:=cell_blk (i:=0) hst.z rfl;have f0:=free_blk (i:=0) hst.z;have c1:=cell_blk (i:=1) hst.out rfl;have e1:=cell_blk (i:=1) hst.z rfl;have f1:=free_blk (i:=1) hst.z;have c2:=cell_blk (i:=2) hst.out rfl;have e2:=cell_blk (i:=2) hst.z rfl;have f2:=free_blk (i:=2) hst.z;have c3:=cell_blk (i:=3) hst.out rfl;have e3:=cell_blk (i:=3) hst.z rfl;have f3:=free_blk (i:=3) hst.z;have c4:=cell_blk (i:=4) hst.out rfl;have e4:=cell_blk (i:=4) hst.z rfl;have f4:=free_blk (i:=4) hst.z;have c5:=cell_blk (i:=5) hst.out rfl;have e5:=cell_blk (i:=5) hst.z rfl;have f5:=free_blk (i:=5) hst.z;have c6:=cell_blk (i:=6) hst.out rfl;have e6:=cell_blk (i:=6) hst.z rfl;have f6:=free_blk (i:=6) hst.z;have c7:=cell_blk (i:=7) hst.out rfl;have e7:=cell_blk (i:=7) hst.z rfl;have f7:=free_blk (i:=7) hst.z;have c8:=cell_blk (i:=8) hst.out rfl;have e8:=cell_blk (i:=8) hst.z rfl;have f8:=free_blk (i:=8) hst.z;have c9:=cell_blk (i:=9) hst.out rfl;have e9:=cell_blk (i:=9) hst.z rfl;have f9:=free_blk (i:=9) hst.z;have c10:=cell_blk (i:=10) hst.out rfl;have e10:=cell_blk (i:=10) hst.z rfl;have f10:=free_blk (i:=10) hst.z;have c11:=cell_blk (i:=11) hst.out rfl;have e11:=cell_blk (i:=11) hst.z rfl;have f11:=free_blk (i:=11) hst.z;have c12:=cell_blk (i:=12) hst.out rfl;have e12:=cell_blk (i:=12) hst.z rfl;have f12:=free_blk (i:=12) hst.z;have c13:=cell_blk (i:=13) hst.out rfl;have e13:=cell_blk (i:=13) hst.z rfl;have f13:=free_blk (i:=13) hst.z
     have HEX:=hid hex
     have HBEL:=hid hst.bel
     have zr:w.heap.size+1<wr.heap.size:=lt_of_block hst.z
     clear hex hown hst hne u1
     rcases HEX.out with h|⟨h,h10⟩
     ·by_cases h10:j=10
      ·subst h10
       subst h
       go_wp2
       ((show bodyPost _ _ _ _ _ _);refine bodyPost_ret (by simp only [results,Tryz.results9];go_simp;try rfl) rfl ?_)
       exact HFIN.out _ (fun b hb=>other14 hb ..) (below14 HBEL.out (by omega) ..)
      ·subst h
       go_wp2
       ((show bodyPost _ _ _ _ _ _);refine bodyPost_ret (by simp only [results,Tryz.results9];go_simp;try rfl) rfl ?_)
       exact HFIN.out _ (fun b hb=>other14 hb ..) (below14 HBEL.out (by omega) ..)
     ·subst h10
      go_wp2
      ((show bodyPost _ _ _ _ _ _);refine bodyPost_ret (by simp only [results,Tryz.results9];go_simp;try rfl) rfl ?_)
      exact HFIN.out _ (fun b hb=>other14 hb ..) (below14 HBEL.out (by omega) ..)
end Go.Proofs.YtejleplhmkmegaaGreatDoor
