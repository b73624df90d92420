/- Texts joined: OuJ. -/
import Derived.Test.YtejleplhmkmegaaGreatDoorO5
import Derived.Test.YtejleplhmkmegaaGreatDoorOo
set_option linter.unusedVariables false
set_option linter.unusedSimpArgs false
namespace Go.Proofs.YtejleplhmkmegaaGreatDoor
set_option maxRecDepth 100000
open Go.ChangeShapes Go.WideShapes Go.ChangeAt Go.RowKit Go.Fl
def qSz1 (d:QryD):Prop:=1≤d.aggs.length∧d.aggs.length≤6∧d.by_.length≤6∧1≤d.mode∧d.mode≤4∧d.having.length≤4∧d.order.length≤4∧0≤d.limit∧d.limit≤1000
def qSz2 (d:QryD):Prop:=if d.mode=4 then 1≤d.sets.length∧d.sets.length≤8 else d.sets.length=0
theorem sizes_iff (d:QryD):sizesB d=true↔qSz1 d∧qSz2 d:=by
 unfold sizesB qSz1 qSz2 withinB mostSets leastSets
 generalize d.aggs.length=a;generalize d.by_.length=b;generalize d.sets.length=c;generalize d.having.length=e;generalize d.order.length=f
 by_cases h:d.mode=4
 ·simp [h];omega
 ·simp [h];omega
theorem all_get {α:Type} (l:List α) (p:α→Bool):l.all p=true↔∀i (h:i<l.length),p l[i]=true:=by
 rw [List.all_eq_true]
 constructor
 ·exact fun h i hi=>h _ (List.getElem_mem hi)
 ·rintro h x hx
  obtain ⟨i,hi,rfl⟩:=List.mem_iff_getElem.1 hx
  exact h i hi
theorem idx_le (l:List ByteArray) {k:Nat} (hk:k<l.length):0≤Lib.idxOfS l l[k]∧Lib.idxOfS l l[k]≤(k:Int):=by
 rcases idx_is l l[k] with ⟨_,h2⟩|⟨j,hj,h,_,_,h3⟩
 ·have:=h2 k hk
  simp at this
 ·refine ⟨by omega,?_⟩
  rcases Nat.lt_or_ge k j with h4|h4
  ·have:=h3 k h4
   simp at this
  ·omega
theorem inOrd_self (l:List ByteArray):inOrdB l l=true↔∀k (h:k<l.length),Lib.idxOfS l l[k]=(k:Int):=by
 constructor
 ·intro h
  unfold inOrdB at h
  rw [List.all_eq_true] at h
  have key:∀k,k<l.length→lastAt l l (k+1)=(k:Int):=by
   intro k
   induction k with
   |zero=>
    intro hk
    have h1:=of_decide_eq_true (h 0 (List.mem_range.2 hk))
    rw [lastAt_succ hk] at h1 ⊢
    have:=idx_le l hk
    omega
   |succ k ih=>
    intro hk
    have h0:=ih (by omega)
    have h1:=of_decide_eq_true (h (k+1) (List.mem_range.2 hk))
    rw [h0,lastAt_succ hk] at h1
    rw [lastAt_succ hk]
    have:=idx_le l hk
    omega
  intro k hk
  rw [←lastAt_succ hk]
  exact key k hk
 ·intro h
  refine inOrdB_yes fun i hi=> ?_
  rw [lastAt_succ hi,h i hi]
  cases i with
  |zero=>show (-1:Int)<_;omega
  |succ i=>rw [lastAt_succ (by omega),h i (by omega)];omega
theorem isOf_iff (ds ms:List ByteArray) (g:Int) (d:QryD):isOfB ds ms g d=true↔qSz1 d∧(∀i (h:i<d.aggs.length),typedB ds ms g d.aggs[i]=true)∧
  (∀i (h:i<d.by_.length),placeB (rightS ds ms g) (Lib.idxOfS ds d.by_[i])=true∧Lib.idxOfS d.by_ d.by_[i]=(i:Int))∧qSz2 d∧(∀i (h:i<d.sets.length),inOrdB d.sets[i] d.by_=true)∧
  (∀i (h:i<d.having.length),condOkB d.aggs.length d.having[i]=true)∧∀i (h:i<d.order.length),keyOkB d.aggs.length d.by_.length d.order[i]=true:=by
 unfold isOfB
 simp only [Bool.and_eq_true]
 rw [sizes_iff,inOrd_self,all_get,all_get,all_get,all_get,all_get]
 constructor
 ·rintro ⟨⟨h1,h2⟩,h3,h4,h5,h6,h7,h8⟩
  exact ⟨h1,h3,fun i h=>⟨h5 i h,h4 i h⟩,h2,h6,h7,h8⟩
 ·rintro ⟨h1,h3,h4,h2,h6,h7,h8⟩
  exact ⟨⟨h1,h2⟩,h3,fun i h=>(h4 i h).2,fun i h=>(h4 i h).1,h6,h7,h8⟩
structure TSt (w:World) (sc qc:Array Value) (X:World):Prop where
 bs:X.heap[w.heap.size]? =some (.cells sc 45 (0,0))
 bq:X.heap[w.heap.size+1]? =some (.cells qc 33 (0,0))
 bel:Below w.heap.size w X
theorem TSt.step {w X Y:World} {sc qc:Array Value} (h:TSt w sc qc X) (hb:Below X.heap.size X Y):TSt w sc qc Y:=⟨blk_below h.bs hb,blk_below h.bq hb,h.bel.step hb⟩
theorem not_of {p:Prop} {b:Bool} (h:b=true→p) (hn:¬p):b=false:=by
 cases b
 ·rfl
 ·exact absurd (h rfl) hn
set_option maxHeartbeats 16000000 in
theorem refTyped_any (q:QryV) (d:QryD) (vd vm:Value) (ds ms:List ByteArray) (g:Int) (w:World) (hd:StrsSl w vd ds) (hm:StrsSl w vm ms) (td:Texts ds) (tm:Texts ms) (hq:QryIs w q d) (hs:QSm d):
  Calls Tryz.prog 70 #[.agg #[vd,vm,.int .i64 g],.agg q.cells] w (IsOfPost (isOfB ds ms g d) w):=by
 have hiff:=isOf_iff ds ms g d
 unfold IsOfPost
 obtain ⟨R,hR⟩:∃R,isOfB ds ms g d=R:=⟨_,rfl⟩
 rw [hR] at hiff ⊢
 have HIF:=hid hiff
 clear hiff hR
 obtain ⟨p0,p1,e1,p2,p3,p4,hA1⟩:=agg_parts hq.aggs
 obtain ⟨p5,p6,e2,p7,p8,p9,hA2⟩:=str_parts hq.by_
 obtain ⟨p10,p11,e3,p12,p13,p14,hA3⟩:=set_parts hq.sets
 obtain ⟨p15,p16,e4,p17,p18,p19,hA4⟩:=cond_parts hq.having
 obtain ⟨p20,p21,e5,p22,p23,p24,hA5⟩:=key_parts hq.order
 have HA1:=hid hA1;have HA2:=hid hA2;have HA3:=hid hA3;have HA4:=hid hA4;have HA5:=hid hA5
 have HBY:=hid hq.by_
 have hmode:=hq.mode;have hlim:=hq.limit
 have hs1:=hs.aggs;have hs2:=hs.by_;have hs3:=hs.sets.1;have hs4:=hs.having;have hs5:=hs.order
 have HSS:=hid hs.sets.2
 have HDD:=hid hd;have HMM:=hid hm;have HTD:=hid td;have HTM:=hid tm
 obtain ⟨aa,LA,ac,ba,LB,bc,mode,sa,LS,sc,every,kind,name,wa,wn,wk,fr,till,la,ln,lc,ha,LH,hc,oa,LO,oc,limit⟩:=q
 dsimp only [QryV.cells] at*
 simp only [Value.slice.injEq] at e1 e2 e3 e4 e5
 obtain ⟨rfl,rfl,rfl⟩:=e1
 obtain ⟨rfl,rfl,rfl⟩:=e2
 obtain ⟨rfl,rfl,rfl⟩:=e3
 obtain ⟨rfl,rfl,rfl⟩:=e4
 obtain ⟨rfl,rfl,rfl⟩:=e5
 unfold qSz1 qSz2 at HIF
 rw [←hmode,←hlim] at HIF
 obtain ⟨LA,hLA⟩:∃n,d.aggs.length=n:=⟨_,rfl⟩
 obtain ⟨LB,hLB⟩:∃n,d.by_.length=n:=⟨_,rfl⟩
 obtain ⟨LS,hLS⟩:∃n,d.sets.length=n:=⟨_,rfl⟩
 obtain ⟨LH,hLH⟩:∃n,d.having.length=n:=⟨_,rfl⟩
 obtain ⟨LO,hLO⟩:∃n,d.order.length=n:=⟨_,rfl⟩
 have HLA:=hid hLA;have HLB:=hid hLB;have HLS:=hid hLS;have HLH:=hid hLH;have HLO:=hid hLO
 rw [hLA] at p2 hs1 ⊢;rw [hLB] at p7 hs2 ⊢;rw [hLS] at p12 hs3 ⊢;rw [hLH] at p17 hs4 ⊢;rw [hLO] at p22 hs5 ⊢
 have HNO:Hid (∀P:Prop,(R=true→P)→¬P→R=false):=fun P h hn=>not_of h hn
 obtain ⟨ad,cd,rfl,_,_,_⟩:=SlAt.shape hd
 obtain ⟨am,cm,rfl,_,_,_⟩:=SlAt.shape hm
 have HL2:Hid (d.aggs.length=LA∧d.by_.length=LB):=⟨hLA,hLB⟩
 generalize ds.length=nd at*;generalize ms.length=nm at*
 clear hd hm td tm hq hs hmode hlim hA1 hA2 hA3 hA4 hA5 hLA hLB hLS hLH hLO p3 p4 p8 p9 p13 p14 p18 p19 p23 p24
 by_cases z0:(LA:Int)<1
 ·have HR:Hid (R=false):=HNO.out _ (fun h=>(HIF.out.1 h)) (fun h=>by
   have:=h.1.1
   have e1:=HLA.out;have e2:=HLB.out;have e4:=HLH.out;have e5:=HLO.out
   omega)
  go_enter Tryz.func70,Tryz.ntmps70
  go_wp2
  go_ret
  exact ⟨ret_bool HR.out.symm,Gr⟩
 by_cases z1:(6:Int)<(LA:Int)
 ·have HR:Hid (R=false):=HNO.out _ (fun h=>(HIF.out.1 h)) (fun h=>by
   have:=h.1.2.1
   have e1:=HLA.out;have e2:=HLB.out;have e4:=HLH.out;have e5:=HLO.out
   omega)
  go_enter Tryz.func70,Tryz.ntmps70
  go_wp2
  go_ret
  exact ⟨ret_bool HR.out.symm,Gr⟩
 by_cases z2:(6:Int)<(LB:Int)
 ·have HR:Hid (R=false):=HNO.out _ (fun h=>(HIF.out.1 h)) (fun h=>by
   have:=h.1.2.2.1
   have e1:=HLA.out;have e2:=HLB.out;have e4:=HLH.out;have e5:=HLO.out
   omega)
  go_enter Tryz.func70,Tryz.ntmps70
  go_wp2
  go_ret
  exact ⟨ret_bool HR.out.symm,Gr⟩
 by_cases z3:mode<1
 ·have HR:Hid (R=false):=HNO.out _ (fun h=>(HIF.out.1 h)) (fun h=>by
   have:=h.1.2.2.2.1
   have e1:=HLA.out;have e2:=HLB.out;have e4:=HLH.out;have e5:=HLO.out
   omega)
  go_enter Tryz.func70,Tryz.ntmps70
  go_wp2
  go_ret
  exact ⟨ret_bool HR.out.symm,Gr⟩
 by_cases z4:(4:Int)<mode
 ·have HR:Hid (R=false):=HNO.out _ (fun h=>(HIF.out.1 h)) (fun h=>by
   have:=h.1.2.2.2.2.1
   have e1:=HLA.out;have e2:=HLB.out;have e4:=HLH.out;have e5:=HLO.out
   omega)
  go_enter Tryz.func70,Tryz.ntmps70
  go_wp2
  go_ret
  exact ⟨ret_bool HR.out.symm,Gr⟩
 by_cases z5:(4:Int)<(LH:Int)
 ·have HR:Hid (R=false):=HNO.out _ (fun h=>(HIF.out.1 h)) (fun h=>by
   have:=h.1.2.2.2.2.2.1
   have e1:=HLA.out;have e2:=HLB.out;have e4:=HLH.out;have e5:=HLO.out
   omega)
  go_enter Tryz.func70,Tryz.ntmps70
  go_wp2
  go_ret
  exact ⟨ret_bool HR.out.symm,Gr⟩
 by_cases z6:(4:Int)<(LO:Int)
 ·have HR:Hid (R=false):=HNO.out _ (fun h=>(HIF.out.1 h)) (fun h=>by
   have:=h.1.2.2.2.2.2.2.1
   have e1:=HLA.out;have e2:=HLB.out;have e4:=HLH.out;have e5:=HLO.out
   omega)
  go_enter Tryz.func70,Tryz.ntmps70
  go_wp2
  go_ret
  exact ⟨ret_bool HR.out.symm,Gr⟩
 by_cases z7:limit<0
 ·have HR:Hid (R=false):=HNO.out _ (fun h=>(HIF.out.1 h)) (fun h=>by
   have:=h.1.2.2.2.2.2.2.2.1
   have e1:=HLA.out;have e2:=HLB.out;have e4:=HLH.out;have e5:=HLO.out
   omega)
  go_enter Tryz.func70,Tryz.ntmps70
  go_wp2
  go_ret
  exact ⟨ret_bool HR.out.symm,Gr⟩
 by_cases z8:(1000:Int)<limit
 ·have HR:Hid (R=false):=HNO.out _ (fun h=>(HIF.out.1 h)) (fun h=>by
   have:=h.1.2.2.2.2.2.2.2.2
   have e1:=HLA.out;have e2:=HLB.out;have e4:=HLH.out;have e5:=HLO.out
   omega)
  go_enter Tryz.func70,Tryz.ntmps70
  go_wp2
  go_ret
  exact ⟨ret_bool HR.out.symm,Gr⟩
 go_enter Tryz.func70,Tryz.ntmps70
 go_wp2_with fail
 obtain ⟨X,hX⟩:∃X,(w.alloc (.cells #[.slice ad nd cd,.slice am nm cm,.int .i64 g] 45)).alloc (.cells #[.slice aa LA ac,.slice ba LB bc,.int .i64 mode,.slice sa LS sc,.int .i64 every,.int .i64 kind,.string name,.slice wa wn wk,.int .i64 fr,.int .i64 till,.slice la ln lc,.slice ha LH hc,.slice oa LO oc,.int .i64 limit] 33)=X:=⟨_,rfl⟩
 have HST:=hid (show TSt w #[.slice ad nd cd,.slice am nm cm,.int .i64 g] #[.slice aa LA ac,.slice ba LB bc,.int .i64 mode,.slice sa LS sc,.int .i64 every,.int .i64 kind,.string name,.slice wa wn wk,.int .i64 fr,.int .i64 till,.slice la ln lc,.slice ha LH hc,.slice oa LO oc,.int .i64 limit] X from ⟨by rw [←hX];exact Bk,by rw [←hX];exact Bk,by rw [←hX];exact Gr⟩)
 have q0:=cell_blk (i:=0) (x:= .slice aa LA ac) HST.out.bq rfl
 try rw [hX]
 clear hX
 go_loopw [5,6,7,8] (fun i _ _ _ wr=>∃j:Nat,j≤LA∧i= .int .i64 (j:Int)∧TSt w #[.slice ad nd cd,.slice am nm cm,.int .i64 g] #[.slice aa LA ac,.slice ba LB bc,.int .i64 mode,.slice sa LS sc,.int .i64 every,.int .i64 kind,.string name,.slice wa wn wk,.int .i64 fr,.int .i64 till,.slice la ln lc,.slice ha LH hc,.slice oa LO oc,.int .i64 limit] wr∧∀i (h:i<d.aggs.length),i<j→typedB ds ms g d.aggs[i]=true) (fun i _ _ _ _=>LA-(intOf i).toNat)
 case atStart=>exact ⟨0,Nat.zero_le _,rfl,HST.out,fun i _ h=>absurd h (Nat.not_lt_zero i)⟩
 case round=>
  obtain ⟨j,hj,rfl,hst,hfa⟩:=hrel
  have HS:=hid hst;have HFA:=hid hfa
  have zb:=lt_of_block hst.bq
  have zb0:w.heap.size<wr.heap.size:=by omega
  clear hst hfa HST
  have g1:(0:Int)≤(j:Int):=Int.natCast_nonneg _
  by_cases hjL:j<LA
  ·have hI:(j:Int)<(LA:Int):=by omega
   have hlen:j<d.aggs.length:=by rw [HLA.out];exact hjL
   obtain ⟨b,off,rfl,hcl⟩:=HA1.out (by omega)
   obtain ⟨c0,c1⟩:=hcl j hlen
   replace c0:=cell_step c0 HS.out.bel;replace c1:=cell_step c1 HS.out.bel
   have q0:=cell_blk (i:=0) (x:= .slice (some ⟨b,off,none⟩) LA ac) HS.out.bq rfl
   have s0:=cell_blk (i:=0) (x:= .slice ad nd cd) HS.out.bs rfl;have s1:=cell_blk (i:=1) (x:= .slice am nm cm) HS.out.bs rfl;have s2:=cell_blk (i:=2) (x:= .int .i64 g) HS.out.bs rfl
   have HMT:=hid (fun W (h:Below w.heap.size w W)=>refMetric_any _ _ ds ms g d.aggs[j].metric W (HDD.out.below h) (HMM.out.below h) HTD.out HTM.out)
   have HTY1:Hid (typedB ds ms g d.aggs[j]=false→R=false):=fun hf=>HNO.out _ (fun h=>(HIF.out.1 h)) (fun h=>by
    have:=h.2.1 j hlen
    rw [hf] at this
    cases this)
   have HTY2:Hid (typedB ds ms g d.aggs[j]=true→∀i (h:i<d.aggs.length),i<j+1→typedB ds ms g d.aggs[i]=true):=fun h0 i h h2=>by
    by_cases h3:i<j
    ·exact HFA.out i h h3
    ·obtain rfl:i=j:=by omega
     exact h0
   have HTD:typedB ds ms g d.aggs[j]=if d.aggs[j].kind=1 then d.aggs[j].metric.toList==[] else placeB (rightS ds ms g) (Lib.idxOfS ms d.aggs[j].metric)&&(decide (1<d.aggs[j].kind)&&decide (d.aggs[j].kind≤5)):=rfl
   rw [HTD] at HTY1 HTY2
   clear HTD hcl
   generalize placeI (rightS ds ms g) (Lib.idxOfS ms d.aggs[j].metric)=pi at*
   generalize placeB (rightS ds ms g) (Lib.idxOfS ms d.aggs[j].metric)=pb at*
   generalize d.aggs[j].kind=k at*;generalize d.aggs[j].metric=s at*
   by_cases k1:k<1
   ·have HR:=hid (HTY1.out (by rw [if_neg (show ¬k=1 by omega)];simp;omega))
    clear HTY1 HTY2
    go_wp2_with (go_at_call 73;go_loud ((with_reducible refine (HMT.out _ (HS.out.bel.new _)).mono ?_);rintro e w2 ⟨rfl,hb2⟩;have hbr2:Below wr.heap.size wr w2:=Gr;have HS2:=hid (HS.out.step hbr2);have a0:w2.cell? ⟨wr.heap.size,0,none⟩=some (.int .i64 k):=cell_step (cell_blk (heap_at rfl) rfl) hb2;have a1:w2.cell? ⟨wr.heap.size,1,none⟩=some (.string s):=cell_step (cell_blk (heap_at rfl) rfl) hb2;have hz2:=hbr2.size;clear hbr2 hb2))
    go_ret
    exact ⟨ret_bool HR.out.symm,HS2.out.bel⟩
   by_cases k5:5<k
   ·have HR:=hid (HTY1.out (by rw [if_neg (show ¬k=1 by omega)];simp;omega))
    clear HTY1 HTY2
    go_wp2_with (go_at_call 73;go_loud ((with_reducible refine (HMT.out _ (HS.out.bel.new _)).mono ?_);rintro e w2 ⟨rfl,hb2⟩;have hbr2:Below wr.heap.size wr w2:=Gr;have HS2:=hid (HS.out.step hbr2);have a0:w2.cell? ⟨wr.heap.size,0,none⟩=some (.int .i64 k):=cell_step (cell_blk (heap_at rfl) rfl) hb2;have a1:w2.cell? ⟨wr.heap.size,1,none⟩=some (.string s):=cell_step (cell_blk (heap_at rfl) rfl) hb2;have hz2:=hbr2.size;clear hbr2 hb2))
    go_ret
    exact ⟨ret_bool HR.out.symm,HS2.out.bel⟩
   by_cases kk:k=1
   ·subst kk
    have hcase:(s.toList==[])=true∨(s.toList==[])=false:=by cases (s.toList==[])<;>simp
    rcases hcase with he|he
    ·have HR:=hid (HTY2.out (by rw [if_pos rfl];exact he))
     clear HTY1 HTY2
     go_wp2_with (go_at_call 73;go_loud ((with_reducible refine (HMT.out _ (HS.out.bel.new _)).mono ?_);rintro e w2 ⟨rfl,hb2⟩;have hbr2:Below wr.heap.size wr w2:=Gr;have HS2:=hid (HS.out.step hbr2);have a0:w2.cell? ⟨wr.heap.size,0,none⟩=some (.int .i64 1):=cell_step (cell_blk (heap_at rfl) rfl) hb2;have a1:w2.cell? ⟨wr.heap.size,1,none⟩=some (.string s):=cell_step (cell_blk (heap_at rfl) rfl) hb2;have hz2:=hbr2.size;clear hbr2 hb2))
     go_roundw
     case rel=>exact ⟨j+1,hjL,by go_num,HS2.out,HR.out⟩
     case measure=>simp [intOf];omega
    ·have HR:=hid (HTY1.out (by rw [if_pos rfl];exact he))
     clear HTY1 HTY2
     go_wp2_with (go_at_call 73;go_loud ((with_reducible refine (HMT.out _ (HS.out.bel.new _)).mono ?_);rintro e w2 ⟨rfl,hb2⟩;have hbr2:Below wr.heap.size wr w2:=Gr;have HS2:=hid (HS.out.step hbr2);have a0:w2.cell? ⟨wr.heap.size,0,none⟩=some (.int .i64 1):=cell_step (cell_blk (heap_at rfl) rfl) hb2;have a1:w2.cell? ⟨wr.heap.size,1,none⟩=some (.string s):=cell_step (cell_blk (heap_at rfl) rfl) hb2;have hz2:=hbr2.size;clear hbr2 hb2))
     go_ret
     exact ⟨ret_bool HR.out.symm,HS2.out.bel⟩
   have kb:(k==1)=false:=by simpa using kk
   have kn:(k !=1)=true:=by simpa using kk
   cases pb
   ·have HR:=hid (HTY1.out (by rw [if_neg kk];rfl))
    clear HTY1 HTY2
    go_wp2_with (go_at_call 73;go_loud ((with_reducible refine (HMT.out _ (HS.out.bel.new _)).mono ?_);rintro e w2 ⟨rfl,hb2⟩;have hbr2:Below wr.heap.size wr w2:=Gr;have HS2:=hid (HS.out.step hbr2);have a0:w2.cell? ⟨wr.heap.size,0,none⟩=some (.int .i64 k):=cell_step (cell_blk (heap_at rfl) rfl) hb2;have a1:w2.cell? ⟨wr.heap.size,1,none⟩=some (.string s):=cell_step (cell_blk (heap_at rfl) rfl) hb2;have hz2:=hbr2.size;clear hbr2 hb2))
    go_ret
    exact ⟨ret_bool HR.out.symm,HS2.out.bel⟩
   ·have HR:=hid (HTY2.out (by rw [if_neg kk];simp;omega))
    clear HTY1 HTY2
    go_wp2_with (go_at_call 73;go_loud ((with_reducible refine (HMT.out _ (HS.out.bel.new _)).mono ?_);rintro e w2 ⟨rfl,hb2⟩;have hbr2:Below wr.heap.size wr w2:=Gr;have HS2:=hid (HS.out.step hbr2);have a0:w2.cell? ⟨wr.heap.size,0,none⟩=some (.int .i64 k):=cell_step (cell_blk (heap_at rfl) rfl) hb2;have a1:w2.cell? ⟨wr.heap.size,1,none⟩=some (.string s):=cell_step (cell_blk (heap_at rfl) rfl) hb2;have hz2:=hbr2.size;clear hbr2 hb2))
    go_roundw
    case rel=>exact ⟨j+1,hjL,by go_num,HS2.out,HR.out⟩
    case measure=>simp [intOf];omega
  ·obtain rfl:LA=j:=by omega
   have HF1:Hid (∀i (h:i<d.aggs.length),typedB ds ms g d.aggs[i]=true):=fun i h=>HFA.out i h (by rw [HLA.out] at h;exact h)
   have HST:=HS
   have q0:=cell_blk (i:=0) (x:= .slice aa LA ac) HS.out.bq rfl;have q1:=cell_blk (i:=1) (x:= .slice ba LB bc) HS.out.bq rfl
   clear HFA HS hj hjL
   go_wp2_with fail
   clear q0 q1 zb zb0 g1
   go_loopw [9,10,11] (fun i _ _ wr=>∃j:Nat,j≤LB∧i= .int .i64 (j:Int)∧TSt w #[.slice ad nd cd,.slice am nm cm,.int .i64 g] #[.slice aa LA ac,.slice ba LB bc,.int .i64 mode,.slice sa LS sc,.int .i64 every,.int .i64 kind,.string name,.slice wa wn wk,.int .i64 fr,.int .i64 till,.slice la ln lc,.slice ha LH hc,.slice oa LO oc,.int .i64 limit] wr∧∀i (h:i<d.by_.length),i<j→placeB (rightS ds ms g) (Lib.idxOfS ds d.by_[i])=true∧Lib.idxOfS d.by_ d.by_[i]=(i:Int)) (fun i _ _ _=>LB-(intOf i).toNat)
   case atStart=>exact ⟨0,Nat.zero_le _,rfl,HST.out,fun i _ h=>absurd h (Nat.not_lt_zero i)⟩
   case round=>
    obtain ⟨j,hj,rfl,hst,hfa⟩:=hrel
    have HS:=hid hst;have HFA:=hid hfa
    have zb:=lt_of_block hst.bq
    have zb0:w.heap.size<wr.heap.size:=by omega
    clear hst hfa HST
    have g1:(0:Int)≤(j:Int):=Int.natCast_nonneg _
    by_cases hjL:j<LB
    ·have hI:(j:Int)<(LB:Int):=by omega
     have hlen:j<d.by_.length:=by rw [HLB.out];exact hjL
     obtain ⟨b,off,rfl,hcl⟩:=HA2.out (by omega)
     have c0:=hcl j hlen
     replace c0:=cell_step c0 HS.out.bel
     have q1:=cell_blk (i:=1) (x:= .slice (some ⟨b,off,none⟩) LB bc) HS.out.bq rfl
     have s0:=cell_blk (i:=0) (x:= .slice ad nd cd) HS.out.bs rfl;have s1:=cell_blk (i:=1) (x:= .slice am nm cm) HS.out.bs rfl;have s2:=cell_blk (i:=2) (x:= .int .i64 g) HS.out.bs rfl
     have P0:=World.plus_cell s0;have P1:=World.plus_cell s1;have P2:=World.plus_cell s2;have P3:=World.plus_cell q1;have P4:=World.plus_cell c0
     have HDM:=hid (fun x=>refDim_any _ _ ds ms g d.by_[j] (World.plus wr x) (HDD.out.below (HS.out.bel.step (World.plus_below wr x))) (HMM.out.below (HS.out.bel.step (World.plus_below wr x))) HTD.out HTM.out)
     have HPL:=hid (fun W (h:Below w.heap.size w W)=>(place15_any _ d.by_ d.by_[j] W (HBY.out.below h) (by have:=HLB.out;omega)).mono (fun e w' ⟨h1,h2⟩=>(⟨h1,h2▸Below.refl _ _⟩:e=_∧Below W.heap.size W w')))
     have HTY1:Hid (¬(placeB (rightS ds ms g) (Lib.idxOfS ds d.by_[j])=true∧Lib.idxOfS d.by_ d.by_[j]=(j:Int))→R=false):=fun hf=>HNO.out _ (fun h=>(HIF.out.1 h)) (fun h=>hf (h.2.2.1 j hlen))
     have HTY2:Hid (placeB (rightS ds ms g) (Lib.idxOfS ds d.by_[j])=true∧Lib.idxOfS d.by_ d.by_[j]=(j:Int)→∀i (h:i<d.by_.length),i<j+1→placeB (rightS ds ms g) (Lib.idxOfS ds d.by_[i])=true∧Lib.idxOfS d.by_ d.by_[i]=(i:Int)):=fun h0 i h h2=>by
      by_cases h3:i<j
      ·exact HFA.out i h h3
      ·obtain rfl:i=j:=by omega
       exact h0
     generalize placeI (rightS ds ms g) (Lib.idxOfS ds d.by_[j])=pi at*
     generalize placeB (rightS ds ms g) (Lib.idxOfS ds d.by_[j])=pb at*
     generalize Lib.idxOfS d.by_ d.by_[j]=ix at*
     generalize d.by_[j]=s at*
     rw [HLB.out] at HPL
     clear hcl
     go_wp2_with fail
     refine wp_region_plus (by kernel_rfl) (by kernel_rfl) ?_
     repeat (first|go_big_quiet_skip|(go_big_quiet_want;go_big_quiet_op;first|go_big_quiet_on|go_big_quiet_call (((go_at_call 131;exact Calls.plus_of (HDM.out _))))))
     refine wpQuiet_nil ?_
     rintro _ ⟨xq,rfl⟩
     have HS2:=hid (HS.out.step (World.plus_below wr xq))
     have hzY:=(World.plus_below wr xq).size
     have d1:=World.plus_cell (World.plus_cell q1 xq);have d0:=World.plus_cell (World.plus_cell c0 xq)
     clear P0 P1 P2 P3 P4 q1 c0 s0 s1 s2 HDM
     generalize World.plus wr xq=Y at*
     have HPL2:=hid (fun x=>HPL.out (World.plus Y x) (HS2.out.bel.step (World.plus_below Y x)))
     clear HPL
     cases pb
     ·have HR:=hid (HTY1.out (by simp))
      clear HTY1 HTY2 HPL2
      go_wp2_with fail
      refine wp_region_plus (by kernel_rfl) (by kernel_rfl) ?_
      repeat (first|go_big_quiet_skip|(go_big_quiet_want;go_big_quiet_op;first|go_big_quiet_on|go_big_quiet_call ((fail))))
      refine wpQuiet_nil ?_
      rintro _ ⟨xq,rfl⟩
      have HS3:=hid (HS2.out.step (World.plus_below Y xq))
      go_wp2
      go_ret
      exact ⟨ret_bool HR.out.symm,HS3.out.bel⟩
     ·by_cases hix:ix=(j:Int)
      ·have HR:=hid (HTY2.out ⟨rfl,hix⟩)
       have hne:(ix !=(j:Int))=false:=by simpa using hix
       clear HTY1 HTY2
       go_wp2_with fail
       refine wp_region_plus (by kernel_rfl) (by kernel_rfl) ?_
       repeat (first|go_big_quiet_skip|(go_big_quiet_want;go_big_quiet_op;first|go_big_quiet_on|go_big_quiet_call (((go_at_call 132;exact Calls.plus_of (HPL2.out _))))))
       refine wpQuiet_nil ?_
       rintro _ ⟨xq,rfl⟩
       have HS3:=hid (HS2.out.step (World.plus_below Y xq))
       go_wp2
       go_roundw
       case rel=>exact ⟨j+1,hjL,by go_num,HS3.out,HR.out⟩
       case measure=>simp [intOf];omega
      ·have HR:=hid (HTY1.out (fun h=>hix h.2))
       have hne:(ix !=(j:Int))=true:=by simpa using hix
       have hne2:decide (ix=(j:Int))=false:=by simpa using hix
       clear HTY1 HTY2
       go_wp2_with fail
       refine wp_region_plus (by kernel_rfl) (by kernel_rfl) ?_
       repeat (first|go_big_quiet_skip|(go_big_quiet_want;go_big_quiet_op;first|go_big_quiet_on|go_big_quiet_call (((go_at_call 132;exact Calls.plus_of (HPL2.out _))))))
       refine wpQuiet_nil ?_
       rintro _ ⟨xq,rfl⟩
       have HS3:=hid (HS2.out.step (World.plus_below Y xq))
       go_wp2
       go_ret
       exact ⟨ret_bool HR.out.symm,HS3.out.bel⟩
    ·obtain rfl:LB=j:=by omega
     have HF2:Hid (∀i (h:i<d.by_.length),placeB (rightS ds ms g) (Lib.idxOfS ds d.by_[i])=true∧Lib.idxOfS d.by_ d.by_[i]=(i:Int)):=fun i h=>HFA.out i h (by rw [HLB.out] at h;exact h)
     have HST:=HS
     have q1:=cell_blk (i:=1) (x:= .slice ba LB bc) HS.out.bq rfl;have q2:=cell_blk (i:=2) (x:= .int .i64 mode) HS.out.bq rfl;have q3:=cell_blk (i:=3) (x:= .slice sa LS sc) HS.out.bq rfl
     have HSZ:Hid (¬(if mode=4 then 1≤LS∧LS≤8 else LS=0)→R=false):=fun hf=>HNO.out _ (fun h=>(HIF.out.1 h)) (fun h=>hf (by have:=h.2.2.2.1;rw [HLS.out] at this;exact this))
     clear HFA hj hjL
     by_cases hsz:(if mode=4 then 1≤LS∧LS≤8 else LS=0)
     rotate_left 1
     ·have HR:=hid (HSZ.out hsz)
      clear HSZ
      by_cases hm4:mode=4
      ·subst hm4
       rw [if_pos rfl] at hsz
       by_cases hl1:(LS:Int)<1
       ·go_wp2
        go_ret
        exact ⟨ret_bool HR.out.symm,HS.out.bel⟩
       ·have hl8:(8:Int)<(LS:Int):=by omega
        go_wp2
        go_ret
        exact ⟨ret_bool HR.out.symm,HS.out.bel⟩
      ·have hmb:(mode !=4)=true:=by simpa using hm4
       have hmc:(mode==4)=false:=by simpa using hm4
       rw [if_neg hm4] at hsz
       have hl0:(0:Int)<(LS:Int):=by omega
       go_wp2
       go_ret
       exact ⟨ret_bool HR.out.symm,HS.out.bel⟩
     have HSZ2:=hid hsz
     clear HSZ hsz
     go_upto_region 16 with fail
     go_cut [167] (fun s167 wx=>s167= .bool false∧wx=wr)
     case first=>
      have hsz:=HSZ2.out
      by_cases hm4:mode=4
      ·subst hm4
       rw [if_pos rfl] at hsz
       have hl1:¬(LS:Int)<1:=by omega
       have hl8:¬(8:Int)<(LS:Int):=by omega
       clear hsz
       go_wp2_with fail
       go_meet
       exact ⟨rfl,rfl⟩
      ·have hmb:(mode !=4)=true:=by simpa using hm4
       have hmc:(mode==4)=false:=by simpa using hm4
       rw [if_neg hm4] at hsz
       have hl0:decide ((0:Int)<(LS:Int))=false:=by simp;omega
       have hl0n:decide (0<LS)=false:=by simp;omega
       clear hsz
       go_wp2_with fail
       go_meet
       exact ⟨rfl,rfl⟩
     case rest=>
      obtain ⟨rfl,rfl⟩:=hcut
      go_wp2_with fail
      clear q1 q2 q3 zb zb0 g1 HS
      go_loopw [12] (fun i wr=>∃j:Nat,j≤LS∧i= .int .i64 (j:Int)∧TSt w #[.slice ad nd cd,.slice am nm cm,.int .i64 g] #[.slice aa LA ac,.slice ba LB bc,.int .i64 mode,.slice sa LS sc,.int .i64 every,.int .i64 kind,.string name,.slice wa wn wk,.int .i64 fr,.int .i64 till,.slice la ln lc,.slice ha LH hc,.slice oa LO oc,.int .i64 limit] wr∧∀i (h:i<d.sets.length),i<j→inOrdB d.sets[i] d.by_=true) (fun i _=>LS-(intOf i).toNat)
      case atStart=>exact ⟨0,Nat.zero_le _,rfl,HST.out,fun i _ h=>absurd h (Nat.not_lt_zero i)⟩
      case round=>
       obtain ⟨j,hj,rfl,hst,hfa⟩:=hrel
       have HS:=hid hst;have HFA:=hid hfa
       have zb:=lt_of_block hst.bq
       have zb0:w.heap.size<wr.heap.size:=by omega
       clear hst hfa HST
       have g1:(0:Int)≤(j:Int):=Int.natCast_nonneg _
       by_cases hjL:j<LS
       ·have hI:(j:Int)<(LS:Int):=by omega
        have hlen:j<d.sets.length:=by rw [HLS.out];exact hjL
        obtain ⟨b,off,rfl,hcl⟩:=HA3.out (by omega)
        obtain ⟨vx,c0,hvx⟩:=hcl j hlen
        replace c0:=cell_step c0 HS.out.bel
        have q1:=cell_blk (i:=1) (x:= .slice ba LB bc) HS.out.bq rfl
        have q3:=cell_blk (i:=3) (x:= .slice (some ⟨b,off,none⟩) LS sc) HS.out.bq rfl
        have P1:=World.plus_cell q1;have P3:=World.plus_cell q3;have P4:=World.plus_cell c0
        have HOR:=hid (fun x=>(ordered15_any _ _ d.sets[j] d.by_ (World.plus wr x) (hvx.below (HS.out.bel.step (World.plus_below wr x))) (HBY.out.below (HS.out.bel.step (World.plus_below wr x))) (by have:=HSS.out _ (List.getElem_mem hlen);omega) (by have:=HLB.out;omega)).mono (fun e w' ⟨h1,h2⟩=>(⟨h1,h2▸Below.refl _ _⟩:e=_∧Below (World.plus wr x).heap.size (World.plus wr x) w')))
        have HTY1:Hid (inOrdB d.sets[j] d.by_=false→R=false):=fun hf=>HNO.out _ (fun h=>(HIF.out.1 h)) (fun h=>by
         have:=h.2.2.2.2.1 j hlen
         rw [hf] at this
         cases this)
        have HTY2:Hid (inOrdB d.sets[j] d.by_=true→∀i (h:i<d.sets.length),i<j+1→inOrdB d.sets[i] d.by_=true):=fun h0 i h h2=>by
         by_cases h3:i<j
         ·exact HFA.out i h h3
         ·obtain rfl:i=j:=by omega
          exact h0
        obtain ⟨xa,xc,rfl,_,_,_⟩:=SlAt.shape hvx
        rw [HLB.out] at HOR
        generalize inOrdB d.sets[j] d.by_=io at*
        generalize d.sets[j].length=nx at*
        clear hcl hvx
        go_wp2_with fail
        refine wp_region_plus (by kernel_rfl) (by kernel_rfl) ?_
        repeat (first|go_big_quiet_skip|(go_big_quiet_want;go_big_quiet_op;first|go_big_quiet_on|go_big_quiet_call (((go_at_call 133;exact Calls.plus_of (HOR.out _))))))
        refine wpQuiet_nil ?_
        rintro _ ⟨xq,rfl⟩
        have HS2:=hid (HS.out.step (World.plus_below wr xq))
        clear P1 P3 P4 q1 q3 c0 HOR
        cases io
        ·have HR:=hid (HTY1.out rfl)
         clear HTY1 HTY2
         go_wp2
         go_ret
         exact ⟨ret_bool HR.out.symm,HS2.out.bel⟩
        ·have HR:=hid (HTY2.out rfl)
         clear HTY1 HTY2
         go_wp2
         go_roundw
         case rel=>exact ⟨j+1,hjL,by go_num,HS2.out,HR.out⟩
         case measure=>simp [intOf];omega
       ·obtain rfl:LS=j:=by omega
        have HF3:Hid (∀i (h:i<d.sets.length),inOrdB d.sets[i] d.by_=true):=fun i h=>HFA.out i h (by rw [HLS.out] at h;exact h)
        have HST:=HS
        have q3:=cell_blk (i:=3) (x:= .slice sa LS sc) HS.out.bq rfl;have q6:=cell_blk (i:=11) (x:= .slice ha LH hc) HS.out.bq rfl
        clear HFA HS hj hjL
        go_wp2_with fail
        clear q3 q6 zb zb0 g1
        go_loopw [13,14] (fun i _ wr=>∃j:Nat,j≤LH∧i= .int .i64 (j:Int)∧TSt w #[.slice ad nd cd,.slice am nm cm,.int .i64 g] #[.slice aa LA ac,.slice ba LB bc,.int .i64 mode,.slice sa LS sc,.int .i64 every,.int .i64 kind,.string name,.slice wa wn wk,.int .i64 fr,.int .i64 till,.slice la ln lc,.slice ha LH hc,.slice oa LO oc,.int .i64 limit] wr∧∀i (h:i<d.having.length),i<j→condOkB LA d.having[i]=true) (fun i _ _=>LH-(intOf i).toNat)
        case atStart=>exact ⟨0,Nat.zero_le _,rfl,HST.out,fun i _ h=>absurd h (Nat.not_lt_zero i)⟩
        case round=>
         obtain ⟨j,hj,rfl,hst,hfa⟩:=hrel
         have HS:=hid hst;have HFA:=hid hfa
         have zb:=lt_of_block hst.bq
         have zb0:w.heap.size<wr.heap.size:=by omega
         clear hst hfa HST
         have g1:(0:Int)≤(j:Int):=Int.natCast_nonneg _
         by_cases hjL:j<LH
         ·have hI:(j:Int)<(LH:Int):=by omega
          have hlen:j<d.having.length:=by rw [HLH.out];exact hjL
          obtain ⟨b,off,rfl,hcl⟩:=HA4.out (by omega)
          obtain ⟨c0,c1,c2⟩:=hcl j hlen
          replace c0:=cell_step c0 HS.out.bel;replace c1:=cell_step c1 HS.out.bel;replace c2:=cell_step c2 HS.out.bel
          have q0:=cell_blk (i:=0) (x:= .slice aa LA ac) HS.out.bq rfl
          have q6:=cell_blk (i:=11) (x:= .slice (some ⟨b,off,none⟩) LH hc) HS.out.bq rfl
          have HTY1:Hid (condOkB LA d.having[j]=false→R=false):=fun hf=>HNO.out _ (fun h=>(HIF.out.1 h)) (fun h=>by
           have:=h.2.2.2.2.2.1 j hlen
           rw [HL2.out.1,hf] at this
           cases this)
          have HTY2:Hid (condOkB LA d.having[j]=true→∀i (h:i<d.having.length),i<j+1→condOkB LA d.having[i]=true):=fun h0 i h h2=>by
           by_cases h3:i<j
           ·exact HFA.out i h h3
           ·obtain rfl:i=j:=by omega
            exact h0
          have HTD:condOkB LA d.having[j]=(decide (0≤d.having[j].pos∧d.having[j].pos≤(LA:Int)-1)&&decide (1≤d.having[j].op∧d.having[j].op≤6)):=rfl
          rw [HTD] at HTY1 HTY2
          clear HTD hcl
          generalize d.having[j].pos=k at*;generalize d.having[j].op=o at*;generalize d.having[j].n=nn at*
          have HS2:=hid (HS.out.step ((Below.refl _ _).new (.cells #[.int .i64 k,.int .i64 o,.int .i64 nn] 57)))
          by_cases k1:k<0
          ·have HR:=hid (HTY1.out (by simp;omega))
           clear HTY1 HTY2
           go_wp2
           go_ret
           exact ⟨ret_bool HR.out.symm,HS2.out.bel⟩
          by_cases k2:(LA:Int)≤k
          ·have HR:=hid (HTY1.out (by simp;omega))
           clear HTY1 HTY2
           go_wp2
           go_ret
           exact ⟨ret_bool HR.out.symm,HS2.out.bel⟩
          by_cases k3:o<1
          ·have HR:=hid (HTY1.out (by simp;omega))
           clear HTY1 HTY2
           go_wp2
           go_ret
           exact ⟨ret_bool HR.out.symm,HS2.out.bel⟩
          by_cases k4:6<o
          ·have HR:=hid (HTY1.out (by simp;omega))
           clear HTY1 HTY2
           go_wp2
           go_ret
           exact ⟨ret_bool HR.out.symm,HS2.out.bel⟩
          have HR:=hid (HTY2.out (by simp;omega))
          clear HTY1 HTY2
          go_wp2
          go_roundw
          case rel=>exact ⟨j+1,hjL,by go_num,HS2.out,HR.out⟩
          case measure=>simp [intOf];omega
         ·obtain rfl:LH=j:=by omega
          have HF4:Hid (∀i (h:i<d.having.length),condOkB LA d.having[i]=true):=fun i h=>HFA.out i h (by rw [HLH.out] at h;exact h)
          have HST:=HS
          have q6:=cell_blk (i:=11) (x:= .slice ha LH hc) HS.out.bq rfl;have q7:=cell_blk (i:=12) (x:= .slice oa LO oc) HS.out.bq rfl
          clear HFA HS hj hjL
          go_wp2_with fail
          clear q6 q7 zb zb0 g1
          go_loopw [15,16] (fun i _ wr=>∃j:Nat,j≤LO∧i= .int .i64 (j:Int)∧TSt w #[.slice ad nd cd,.slice am nm cm,.int .i64 g] #[.slice aa LA ac,.slice ba LB bc,.int .i64 mode,.slice sa LS sc,.int .i64 every,.int .i64 kind,.string name,.slice wa wn wk,.int .i64 fr,.int .i64 till,.slice la ln lc,.slice ha LH hc,.slice oa LO oc,.int .i64 limit] wr∧∀i (h:i<d.order.length),i<j→keyOkB LA LB d.order[i]=true) (fun i _ _=>LO-(intOf i).toNat)
          case atStart=>exact ⟨0,Nat.zero_le _,rfl,HST.out,fun i _ h=>absurd h (Nat.not_lt_zero i)⟩
          case round=>
           obtain ⟨j,hj,rfl,hst,hfa⟩:=hrel
           have HS:=hid hst;have HFA:=hid hfa
           have zb:=lt_of_block hst.bq
           have zb0:w.heap.size<wr.heap.size:=by omega
           clear hst hfa HST
           have g1:(0:Int)≤(j:Int):=Int.natCast_nonneg _
           by_cases hjL:j<LO
           ·have hI:(j:Int)<(LO:Int):=by omega
            have hlen:j<d.order.length:=by rw [HLO.out];exact hjL
            obtain ⟨b,off,rfl,hcl⟩:=HA5.out (by omega)
            obtain ⟨c0,c1,c2⟩:=hcl j hlen
            replace c0:=cell_step c0 HS.out.bel;replace c1:=cell_step c1 HS.out.bel;replace c2:=cell_step c2 HS.out.bel
            have q0:=cell_blk (i:=0) (x:= .slice aa LA ac) HS.out.bq rfl;have q1:=cell_blk (i:=1) (x:= .slice ba LB bc) HS.out.bq rfl
            have q7:=cell_blk (i:=12) (x:= .slice (some ⟨b,off,none⟩) LO oc) HS.out.bq rfl
            have HTY1:Hid (keyOkB LA LB d.order[j]=false→R=false):=fun hf=>HNO.out _ (fun h=>(HIF.out.1 h)) (fun h=>by
             have:=h.2.2.2.2.2.2 j hlen
             rw [HL2.out.1,HL2.out.2,hf] at this
             cases this)
            have HTY2:Hid (keyOkB LA LB d.order[j]=true→∀i (h:i<d.order.length),i<j+1→keyOkB LA LB d.order[i]=true):=fun h0 i h h2=>by
             by_cases h3:i<j
             ·exact HFA.out i h h3
             ·obtain rfl:i=j:=by omega
              exact h0
            have HTD:keyOkB LA LB d.order[j]=if d.order[j].agg then decide (0≤d.order[j].pos∧d.order[j].pos≤(LA:Int)-1) else decide (0≤d.order[j].pos∧d.order[j].pos≤(LB:Int)-1):=rfl
            rw [HTD] at HTY1 HTY2
            clear HTD hcl
            generalize d.order[j].pos=k at*;generalize d.order[j].agg=o at*;generalize d.order[j].desc=nn at*
            have HS2:=hid (HS.out.step ((Below.refl _ _).new (.cells #[.bool o,.int .i64 k,.bool nn] 131)))
            by_cases k1:k<0
            ·have HR:=hid (HTY1.out (by cases o<;>simp<;>omega))
             clear HTY1 HTY2
             go_wp2
             go_ret
             exact ⟨ret_bool HR.out.symm,HS2.out.bel⟩
            cases o
            ·by_cases k2:(LB:Int)≤k
             ·have HR:=hid (HTY1.out (by simp;omega))
              clear HTY1 HTY2
              go_wp2
              go_ret
              exact ⟨ret_bool HR.out.symm,HS2.out.bel⟩
             ·have HR:=hid (HTY2.out (by simp;omega))
              clear HTY1 HTY2
              go_wp2
              go_roundw
              case rel=>exact ⟨j+1,hjL,by go_num,HS2.out,HR.out⟩
              case measure=>simp [intOf];omega
            ·by_cases k2:(LA:Int)≤k
             ·have HR:=hid (HTY1.out (by simp;omega))
              clear HTY1 HTY2
              go_wp2
              go_ret
              exact ⟨ret_bool HR.out.symm,HS2.out.bel⟩
             ·have HR:=hid (HTY2.out (by simp;omega))
              clear HTY1 HTY2
              go_wp2
              go_roundw
              case rel=>exact ⟨j+1,hjL,by go_num,HS2.out,HR.out⟩
              case measure=>simp [intOf];omega
           ·obtain rfl:LO=j:=by omega
            have HF5:Hid (∀i (h:i<d.order.length),keyOkB LA LB d.order[i]=true):=fun i h=>HFA.out i h (by rw [HLO.out] at h;exact h)
            have q7:=cell_blk (i:=12) (x:= .slice oa LO oc) HS.out.bq rfl
            have HR:Hid (R=true):=HIF.out.2 ⟨by
             have e1:=HLA.out;have e2:=HLB.out;have e4:=HLH.out;have e5:=HLO.out
             omega,HF1.out,HF2.out,by have:=HSZ2.out;rw [HLS.out];exact this,HF3.out,by rw [HL2.out.1];exact HF4.out,by rw [HL2.out.1,HL2.out.2];exact HF5.out⟩
            have HB:=hid HS.out.bel
            go_wp2
            go_ret
            exact ⟨ret_bool HR.out.symm,HB.out⟩
set_option maxHeartbeats 4000000 in
theorem refCheck15_any (S:Nat→Prop) (D:Nat) (q:QryV) (d:QryD) (vd vm:Value) (ds ms:List ByteArray) (g:Int) (w:World) (hd:StrsSl w vd ds) (hm:StrsSl w vm ms) (td:Texts ds) (tm:Texts ms)
  (hq:QryIs w q d) (hs:QSm d) (hf:FilS S w D [.int .i64 q.kind,.string q.name,.slice q.wa q.wn q.wc,.int .i64 q.fr,.int .i64 q.till,.slice q.la q.ln q.lc] d.wher) (hD:D≤900) (hc:countN D d.wher≤1000000000000):
  Calls Tryz.prog 33 #[.agg #[vd,vm,.int .i64 g],.agg q.cells] w (IntPost (checkQ ds ms g d (flatN D 1 d.wher):Nat) w):=by
 have HR:=hid (fun W (h:Below w.heap.size w W)=>refRight_any vd vm ds ms g W (hd.below h) (hm.below h) td tm)
 have HO:=hid (fun W (h:Below w.heap.size w W)=>refTyped_any q d vd vm ds ms g W (hd.below h) (hm.below h) td tm (hq.all.below h).is hs)
 have HC:=hid (fun W=>gRefCoarser_any g q.every W)
 have HF:=hid (fun W (h:Below w.heap.size w W)=>refCheck14_any S D _ d.wher vd vm ds ms g W (hd.below h) (hm.below h) td tm (hf.below h) hD hc)
 unfold checkQ IntPost
 rw [←hq.every]
 unfold IsOfPost at HO
 unfold IntPost at HF
 generalize checkFil ds ms g (flatN D 1 d.wher)=r at*
 generalize rightS ds ms g=b at*
 generalize isOfB ds ms g d=b2 at*
 obtain ⟨ad,cd,rfl,_,_,_⟩:=SlAt.shape hd
 obtain ⟨am',cm,rfl,_,_,_⟩:=SlAt.shape hm
 generalize ds.length=nd at*;generalize ms.length=nm' at*
 clear hd hm td tm hf hs hq hD hc
 obtain ⟨aa,LA,ac,ba,LB,bc,mode,sa,LS,sc,every,kind,name,wa,wn,wk,fr,till,la,ln,lc,ha,LH,hc,oa,LO,oc,limit⟩:=q
 dsimp only [QryV.cells] at*
 generalize gCoarserB g every=co at*
 have hev:every=0∨(every !=0)=true:=by
  by_cases h:every=0
  ·exact .inl h
  ·exact .inr (by simpa using h)
 cases b
 ·rw [if_neg (by simp)]
  go_enter Tryz.func33,Tryz.ntmps33
  go_wp2_with (go_at_call 69;go_loud ((with_reducible refine (HR.out _ Gr).mono ?_);rintro e w1 ⟨rfl,hb1⟩))
  go_ret
  exact ⟨rfl,Gr⟩
 ·rw [if_pos rfl]
  cases b2
  ·rw [if_neg (by simp)]
   go_enter Tryz.func33,Tryz.ntmps33
   go_wp2_with (first
    |(go_at_call 69;go_loud ((with_reducible refine (HR.out _ Gr).mono ?_);rintro e w1 ⟨rfl,hb1⟩;obtain ⟨hc1,hf1,hk1,hz1⟩:=bcell3 hb1;(try simp only [World.size_alloc,World.size_drew] at hz1);have:w.heap.size<w1.heap.size:=(by omega);have:w.heap.size+1<w1.heap.size:=(by omega)))
    |(go_at_call 70;go_loud ((with_reducible refine (HO.out _ Gr).mono ?_);rintro e w2 ⟨rfl,hb2⟩)))
   go_ret
   exact ⟨rfl,Gr⟩
  ·rw [if_pos rfl]
   rcases hev with rfl|hev
   ·rw [if_neg (by simp)]
    go_enter Tryz.func33,Tryz.ntmps33
    go_wp2_with (first
     |(go_at_call 69;go_loud ((with_reducible refine (HR.out _ Gr).mono ?_);rintro e w1 ⟨rfl,hb1⟩;obtain ⟨hc1,hf1,hk1,hz1⟩:=bcell3 hb1;(try simp only [World.size_alloc,World.size_drew] at hz1);have:w.heap.size<w1.heap.size:=(by omega);have:w.heap.size+1<w1.heap.size:=(by omega)))
     |(go_at_call 70;go_loud ((with_reducible refine (HO.out _ Gr).mono ?_);rintro e w2 ⟨rfl,hb2⟩;obtain ⟨hc2,hf2,hk2,hz2⟩:=bcell3 hb2;(try simp only [World.size_alloc,World.size_drew] at hz2);have:w.heap.size<w2.heap.size:=(by omega);have:w.heap.size+1<w2.heap.size:=(by omega)))
     |(go_at_call 72;go_loud ((with_reducible refine (HF.out _ Gr).mono ?_);rintro e w3 ⟨rfl,hb3⟩)))
    go_ret
    exact ⟨rfl,Gr⟩
   ·cases co
    ·rw [if_pos (by rw [hev];rfl)]
     have hne:(every==0)=false:=by simpa using hev
     go_enter Tryz.func33,Tryz.ntmps33
     go_wp2_with (first
      |(go_at_call 69;go_loud ((with_reducible refine (HR.out _ Gr).mono ?_);rintro e w1 ⟨rfl,hb1⟩;obtain ⟨hc1,hf1,hk1,hz1⟩:=bcell3 hb1;(try simp only [World.size_alloc,World.size_drew] at hz1);have:w.heap.size<w1.heap.size:=(by omega);have:w.heap.size+1<w1.heap.size:=(by omega)))
      |(go_at_call 70;go_loud ((with_reducible refine (HO.out _ Gr).mono ?_);rintro e w2 ⟨rfl,hb2⟩;obtain ⟨hc2,hf2,hk2,hz2⟩:=bcell3 hb2;(try simp only [World.size_alloc,World.size_drew] at hz2);have:w.heap.size<w2.heap.size:=(by omega);have:w.heap.size+1<w2.heap.size:=(by omega)))
      |(go_at_call 71;go_loud ((with_reducible refine (HC.out _).mono ?_);rintro e w3 ⟨rfl,rfl⟩)))
     go_ret
     exact ⟨rfl,Gr⟩
    ·rw [if_neg (by rw [hev];simp)]
     have hne:(every==0)=false:=by simpa using hev
     go_enter Tryz.func33,Tryz.ntmps33
     go_wp2_with (first
      |(go_at_call 69;go_loud ((with_reducible refine (HR.out _ Gr).mono ?_);rintro e w1 ⟨rfl,hb1⟩;obtain ⟨hc1,hf1,hk1,hz1⟩:=bcell3 hb1;(try simp only [World.size_alloc,World.size_drew] at hz1);have:w.heap.size<w1.heap.size:=(by omega);have:w.heap.size+1<w1.heap.size:=(by omega)))
      |(go_at_call 70;go_loud ((with_reducible refine (HO.out _ Gr).mono ?_);rintro e w2 ⟨rfl,hb2⟩;obtain ⟨hc2,hf2,hk2,hz2⟩:=bcell3 hb2;(try simp only [World.size_alloc,World.size_drew] at hz2);have:w.heap.size<w2.heap.size:=(by omega);have:w.heap.size+1<w2.heap.size:=(by omega)))
      |(go_at_call 71;go_loud ((with_reducible refine (HC.out _).mono ?_);rintro e w3 ⟨rfl,rfl⟩))
      |(go_at_call 72;go_loud ((with_reducible refine (HF.out _ Gr).mono ?_);rintro e w4 ⟨rfl,hb4⟩)))
     go_ret
     exact ⟨rfl,Gr⟩
end Go.Proofs.YtejleplhmkmegaaGreatDoor
