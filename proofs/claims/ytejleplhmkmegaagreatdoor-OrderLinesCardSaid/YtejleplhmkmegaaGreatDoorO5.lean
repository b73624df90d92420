/- Texts joined: OuF, OuG, OuH, OuI, OuE. -/
import Derived.Test.YtejleplhmkmegaaGreatDoorOo
import Derived.Test.YtejleplhmkmegaaGreatDoorOh
import Derived.Test.YtejleplhmkmegaaGreatDoorOf
set_option linter.unusedVariables false
set_option linter.unusedSimpArgs false
namespace Go.Proofs.YtejleplhmkmegaaGreatDoor
set_option maxRecDepth 100000
open Go.ChangeShapes Go.WideShapes Go.ChangeAt Go.RowKit Go.Fl
def deepN:Nat→FilD→Nat
 |0,_=>0
 |d+1,.mk _ _ _ _ _ l=>(l.map (deepN d)).foldl max 0+1
def allN (R:FilD→Bool):Nat→FilD→Bool
 |0,_=>true
 |d+1,.mk k n ws fr till l=>R (.mk k n ws fr till l)&&l.all (allN R d)
theorem flatN_len:∀(D deep:Nat) (f:FilD),(flatN D deep f).length=countN D f
 |0,_,_=>rfl
 |D+1,deep,.mk k n ws fr till l=>by
  unfold flatN countN
  rw [List.length_cons,List.length_flatten,List.map_map,show (List.length∘flatN D (deep+1))=countN D from funext fun x=>flatN_len D (deep+1) x]
  omega
theorem flat_allN (R:FilD→Bool):∀(D deep:Nat) (f:FilD),(flatN D deep f).all (fun p=>R p.2)=allN R D f
 |0,_,_=>rfl
 |D+1,deep,.mk k n ws fr till l=>by
  unfold flatN allN
  rw [List.all_cons,List.all_flatten,List.all_map]
  congr 2
  funext x
  exact flat_allN R D (deep+1) x
theorem foldl_max_le:∀(l:List Nat) (a m:Nat),l.foldl max a≤m↔a≤m∧∀x∈l,x≤m
 |[],a,m=>by simp
 |x::l,a,m=>by rw [List.foldl_cons,foldl_max_le l];simp [Nat.max_le,and_assoc]
theorem flat_deepN (m:Nat):∀(D deep:Nat) (f:FilD),(∀p∈flatN D deep f,p.1≤m)↔(deepN D f=0∨deep+deepN D f≤m+1)
 |0,_,_=>by simp [flatN,deepN]
 |D+1,deep,.mk k n ws fr till l=>by
  unfold flatN deepN
  have h:(∀p∈(deep,FilD.mk k n ws fr till l)::(l.map (flatN D (deep+1))).flatten,p.1≤m)↔deep≤m∧∀x∈l,∀p∈flatN D (deep+1) x,p.1≤m:=by
   simp only [List.mem_cons,List.mem_flatten,List.mem_map]
   constructor
   ·exact fun h=>⟨h _ (.inl rfl),fun x hx p hp=>h p (.inr ⟨_,⟨x,hx,rfl⟩,hp⟩)⟩
   ·rintro ⟨h1,h2⟩ p (rfl|⟨_,⟨x,hx,rfl⟩,hp⟩)
    ·exact h1
    ·exact h2 x hx p hp
  rw [h]
  have h2:(∀x∈l,∀p∈flatN D (deep+1) x,p.1≤m)↔∀x∈l,deepN D x=0∨deep+1+deepN D x≤m+1:=
   ⟨fun h x hx=>(flat_deepN m D (deep+1) x).1 (h x hx),fun h x hx=>(flat_deepN m D (deep+1) x).2 (h x hx)⟩
  rw [h2]
  constructor
  ·rintro ⟨h1,h3⟩
   refine .inr ?_
   have:(l.map (deepN D)).foldl max 0≤m-deep:=(foldl_max_le _ _ _).2 ⟨Nat.zero_le _,fun y hy=>by
    obtain ⟨x,hx,rfl⟩:=List.mem_map.1 hy
    have:=h3 x hx
    omega⟩
   omega
  ·rintro (h|h)
   ·omega
   ·have h4:=(foldl_max_le (l.map (deepN D)) 0 (m-deep)).1 (by omega)
    refine ⟨by omega,fun x hx=> ?_⟩
    have:=h4.2 _ (List.mem_map.2 ⟨x,hx,rfl⟩)
    omega
def gOkF (g:Int) (f:FilD):Bool:= !(f.kind==6&& !gFitsB f.fr f.till g)
def refResF (ds ms:List ByteArray) (g:Int) (D:Nat) (f:FilD):Nat:=
 if decide (40<countN D f)=true then 140 else if decide (6<deepN D f)=true then 140 else if allN (filRightB ds ms g) D f=true then (if allN (gOkF g) D f=true then 0 else 110) else 140
theorem resF_ref (ds ms:List ByteArray) (g:Int) (D:Nat) (f:FilD):resF ds ms g (flatN D 1 f)=refResF ds ms g D f:=by
 have hbad:∀L:List (Nat×FilD),anyBadF ds ms g L=true↔(40<L.length∨(∃p∈L,6<p.1)∨∃p∈L,filRightB ds ms g p.2=false):=by
  intro L
  unfold anyBadF
  rw [List.any_eq_true]
  constructor
  ·rintro ⟨j,hj,h⟩
   rw [List.mem_range] at hj
   rw [List.getElem?_eq_getElem hj] at h
   unfold badF at h
   simp only [Bool.or_eq_true,decide_eq_true_eq,Bool.not_eq_true'] at h
   rcases h with h|h|h
   ·exact .inl (by omega)
   ·exact .inr (.inl ⟨_,List.getElem_mem hj,h⟩)
   ·exact .inr (.inr ⟨_,List.getElem_mem hj,h⟩)
  ·rintro (h|⟨p,hp,h⟩|⟨p,hp,h⟩)
   ·refine ⟨40,List.mem_range.2 h,?_⟩
    rw [List.getElem?_eq_getElem h]
    unfold badF
    simp
   ·obtain ⟨j,hj,rfl⟩:=List.mem_iff_getElem.1 hp
    refine ⟨j,List.mem_range.2 hj,?_⟩
    rw [List.getElem?_eq_getElem hj]
    unfold badF
    simp [h]
   ·obtain ⟨j,hj,rfl⟩:=List.mem_iff_getElem.1 hp
    refine ⟨j,List.mem_range.2 hj,?_⟩
    rw [List.getElem?_eq_getElem hj]
    unfold badF
    simp [h]
 have h1:=flatN_len D 1 f
 have h2:=flat_deepN 6 D 1 f
 have h3:=flat_allN (filRightB ds ms g) D 1 f
 have h4:=flat_allN (gOkF g) D 1 f
 have h2':(∃p∈flatN D 1 f,6<p.1)↔6<deepN D f:=by
  constructor
  ·rintro ⟨p,hp,h⟩
   rcases Nat.lt_or_ge 6 (deepN D f) with h5|h5
   ·exact h5
   ·have:=h2.2 (.inr (by omega)) p hp
    omega
  ·intro h
   by_cases h5:∃p∈flatN D 1 f,6<p.1
   ·exact h5
   ·have:=h2.1 fun p hp=>by
     rcases Nat.lt_or_ge 6 p.1 with h6|h6
     ·exact absurd ⟨p,hp,h6⟩ h5
     ·exact h6
    omega
 have h3':(∃p∈flatN D 1 f,filRightB ds ms g p.2=false)↔allN (filRightB ds ms g) D f=false:=by
  rw [←h3,List.all_eq_false]
  simp
 have hb:=hbad (flatN D 1 f)
 rw [h1,h2',h3'] at hb
 have hg:((flatN D 1 f).any (grainF g))= !allN (gOkF g) D f:=by
  rw [←h4,List.not_all_eq_any_not]
  congr 1
  funext p
  unfold grainF gOkF
  simp
 unfold resF eAtF refResF
 rw [List.take_length,hg]
 cases ha:anyBadF ds ms g (flatN D 1 f)
 ·rw [ha] at hb
  have h5:¬40<countN D f:=fun h=>by have:=hb.2 (.inl h);cases this
  have h6:¬6<deepN D f:=fun h=>by have:=hb.2 (.inr (.inl h));cases this
  have h7:allN (filRightB ds ms g) D f=true:=by
   cases h:allN (filRightB ds ms g) D f
   ·have:=hb.2 (.inr (.inr h));cases this
   ·rfl
  simp only [h5,h6,h7,decide_false,Bool.false_eq_true,if_false,if_true]
  cases allN (gOkF g) D f<;>rfl
 ·rw [if_pos rfl]
  rcases hb.1 ha with h|h|h
  ·simp [h]
  ·simp [h]
  ·simp [h]
theorem checkFil_ref (ds ms:List ByteArray) (g:Int) (D:Nat) (f:FilD):checkFil ds ms g (flatN D 1 f)=if rightS ds ms g=true then refResF ds ms g D f else 100:=by
 unfold checkFil
 rw [resF_ref]
theorem deepN_le:∀(D:Nat) (f:FilD),deepN D f≤D
 |0,_=>Nat.le_refl _
 |D+1,.mk k n ws fr till l=>by
  unfold deepN
  have:=(foldl_max_le (l.map (deepN D)) 0 D).2 ⟨Nat.zero_le _,fun x hx=>by
   obtain ⟨y,_,rfl⟩:=List.mem_map.1 hx
   exact deepN_le D y⟩
  omega
theorem max_take {l:List Nat} {k:Nat} (h:k<l.length):(l.take (k+1)).foldl max 0=max ((l.take k).foldl max 0) l[k]:=by
 rw [List.take_succ_eq_append_getElem h,List.foldl_append]
 rfl
theorem max_take_le {l:List Nat} {m:Nat} (h:∀x∈l,x≤m) (k:Nat):(l.take k).foldl max 0≤m:=
 (foldl_max_le _ _ _).2 ⟨Nat.zero_le _,fun x hx=>h x (List.mem_of_mem_take hx)⟩
def DeepSpec (D:Nat):Prop:=∀(S:Nat→Prop) (f:FilD) (cs:List Value) (w:World),FilS S w D cs f→D≤1000000→Calls Tryz.prog 135 #[.agg cs.toArray] w fun e w'=>e= .returned (.int .i64 (deepN D f:Nat))∧Below w.heap.size w w'
set_option maxHeartbeats 4000000 in
theorem deep_step (D:Nat) (ih:DeepSpec D):DeepSpec (D+1):=by
 intro S f cs w hf hD
 obtain ⟨k,n,ws,fr,till,l⟩:=f
 unfold FilS at hf
 obtain ⟨vw,vl,rows,rfl,hn,hw,hws,hrl,hr6,hl,hrec⟩:=hf
 obtain ⟨aw,cw,rfl,_⟩:=SlAt.shape hw.sl
 obtain ⟨al,cl,rfl,l1,l2,l3⟩:=SlAt.shape hl.sl
 have HL:=hid hl.sl;have HRL:=hid hrl;have HR6:=hid hr6;have HREC:=hid hrec
 unfold deepN
 obtain ⟨C,hC⟩:∃C,l.map (deepN D)=C:=⟨_,rfl⟩
 have HC:=hid hC
 rw [hC]
 have HLC:Hid (C.length=l.length):=by unfold Hid;rw [←hC,List.length_map]
 have HSM:Hid (∀k,(C.take k).foldl max 0≤D):=max_take_le (fun x hx=>by
  rw [←hC] at hx
  obtain ⟨y,_,rfl⟩:=List.mem_map.1 hx
  exact deepN_le D y)
 have im:=ite_max
 unfold maxLen at l2
 generalize ws.length=m1 at*
 obtain ⟨L,hL⟩:∃L,l.length=L:=⟨_,rfl⟩
 have HLL:=hid hL
 rw [hL] at l1 ⊢
 clear hw hl hws hrl hr6 hrec hC hL hn
 go_enter Tryz.func135,Tryz.ntmps135
 go_wp2
 go_loopw [3,4] (fun s i wr=>∃j:Nat,j≤L∧i= .int .i64 (j:Nat)∧s= .int .i64 (((C.take j).foldl max 0:Nat):Int)∧Below w.heap.size w wr∧wr.heap[w.heap.size]? =some (outC k n (.slice aw m1 cw) fr till (.slice al L cl))) (fun _ i _=>L-(intOf i).toNat)
 case atStart=>exact ⟨0,Nat.zero_le _,rfl,rfl,Gr,heap_at rfl⟩
 case round=>
  obtain ⟨j,hj,rfl,rfl,hbel,y0⟩:=hrel
  have g1:(0:Int)≤(j:Int):=Int.natCast_nonneg _
  have u2:wr.cell? ⟨w.heap.size,5,none⟩=some (.slice al L cl):=cell_blk y0 rfl
  have zb0:w.heap.size<wr.heap.size:=blk_lt y0
  have hs1:=HSM.out j
  obtain ⟨s,hs⟩:∃s,(C.take j).foldl max 0=s:=⟨_,rfl⟩
  have HS:=hid hs
  rw [hs] at hs1 ⊢
  by_cases hjL:j<L
  ·have hjl:j<l.length:=by have:=HLL.out;omega
   have hjC:j<C.length:=by rw [HLC.out];exact hjl
   have hI:(j:Int)<(L:Int):=by omega
   obtain ⟨bl,ol,rfl,hcell⟩:=(SlAt.parts HL.out).2.2.2.2 (by rw [(SlAt.len HL.out)];omega)
   have hjr:j<rows.length:=by rw [HRL.out];exact hjl
   have hfr:=HREC.out j hjl rows[j] (List.getElem?_eq_getElem hjr)
   have hcr:∀i u,i<6→rows[j][i]? =some u→w.cell? ⟨bl,ol+(j*6+i),none⟩=some u:=fun i u h6 hu=>hcell _ _ ((flatten_at HR6.out (List.getElem?_eq_getElem hjr) h6).trans hu)
   have hcj:C[j]=deepN D l[j]:=by
    have:=HC.out
    subst this
    simp
   have hst:=max_take hjC
   have HI:=hid (fun W (h:Below w.heap.size w W)=>ih S l[j] rows[j] W (hfr.below h) (by omega))
   rw [←hcj] at HI
   have HST:=hid (hst.trans (by rw [hs]))
   generalize C[j]=c at*
   generalize rows[j]=row at*
   generalize l[j]=fj at*
   clear hst hcj
   cases D with
   |zero=>simp [FilS] at hfr
   |succ D=>
   obtain ⟨k2,n2,ws2,fr2,till2,l2'⟩:=fj
   unfold FilS at hfr
   obtain ⟨vw2,vl2,rows2,rfl,t1,hw2,t2,t3,t4,hl2,t5⟩:=hfr
   clear t1 t2 t3 t4 t5
   obtain ⟨aw2,cw2,rfl,_⟩:=SlAt.shape hw2.sl
   obtain ⟨al2,cl2,rfl,_⟩:=SlAt.shape hl2.sl
   have b0:=cell_step (hcr 0 _ (by decide) rfl) hbel;have b1:=cell_step (hcr 1 _ (by decide) rfl) hbel;have b2:=cell_step (hcr 2 _ (by decide) rfl) hbel;have b3:=cell_step (hcr 3 _ (by decide) rfl) hbel;have b4:=cell_step (hcr 4 _ (by decide) rfl) hbel;have b5:=cell_step (hcr 5 _ (by decide) rfl) hbel
   rw [Nat.add_zero] at b0
   rw [←Nat.add_assoc] at b1 b2 b3 b4 b5
   have HB:=hid hbel;have HY:=hid y0
   clear hcell hcr hw2 hl2 hbel y0
   generalize ws2.length=m2 at*
   generalize l2'.length=m3 at*
   have HMX:Hid (((max s c:Nat):Int)=max (s:Int) (c:Int)):=by unfold Hid;omega
   go_wp2_with (go_at_call 135;((with_reducible refine (HI.out _ HB.out).mono ?_);rintro e w1 ⟨rfl,hb1⟩))
   go_roundw
   case rel=>
    refine ⟨j+1,hjL,by go_num,?_,by have:=HB.out;exact Gr,(hb1.block _ (by omega)).trans HY.out⟩
    rw [HST.out,HMX.out]
   case measure=>simp [intOf];omega
  ·obtain rfl:j=L:=by omega
   have hfull:s=C.foldl max 0:=by rw [←HS.out,List.take_of_length_le (by rw [HLC.out,HLL.out];exact Nat.le_refl _)]
   have HF:=hid hfull
   have HB:=hid hbel
   have e1:IntKind.i64.wrap ((s:Int)+1)=(s:Int)+1:=IntWalk.i64_in _ (by omega)
   clear hbel hs1 hfull hs HS
   go_wp2
   go_ret
   exact ⟨by rw [←HF.out];rfl,HB.out⟩
theorem deep_any:∀D,DeepSpec D
 |0=>fun S f cs w hf=>by simp [FilS] at hf
 |D+1=>deep_step D (deep_any D)
theorem between14_any (n a b:Int) (w:World):Calls Tryz.prog 232 #[.int .i64 n,.int .i64 a,.int .i64 b] w fun e w'=>e= .returned (.bool (decide (a≤n)&&decide (n≤b)))∧w=w':=by
 by_cases h1:a≤n
 ·by_cases h2:n≤b
  ·go_enter Tryz.func232,Tryz.ntmps232
   go_wp2
   go_ret
   exact ⟨ret_bool (by simp [h1,h2]),rfl⟩
  ·go_enter Tryz.func232,Tryz.ntmps232
   go_wp2
   go_ret
   exact ⟨ret_bool (by simp [h1,h2]),rfl⟩
 ·go_enter Tryz.func232,Tryz.ntmps232
  go_wp2
  go_ret
  exact ⟨ret_bool (by first|(simp [h1];done)|(simp;omega)),rfl⟩
theorem formOf_cases {k:Int} {f:FormD} (h:formOf k=some f):1≤k∧k≤9∧(f.hs=true↔k=6):=by
 unfold formOf at h
 by_cases h1:k=1
 ·subst h1;simp at h;subst h;simp
 by_cases h2:k=2
 ·subst h2;simp at h;subst h;simp
 by_cases h3:k=3
 ·subst h3;simp at h;subst h;simp
 by_cases h4:k=4
 ·subst h4;simp at h;subst h;simp
 by_cases h5:k=5
 ·subst h5;simp at h;subst h;simp
 by_cases h6:k=6
 ·subst h6;simp at h;subst h;simp
 by_cases h7:k=7
 ·subst h7;simp at h;subst h;simp
 by_cases h8:k=8
 ·subst h8;simp at h;subst h;simp
 by_cases h9:k=9
 ·subst h9;simp at h;subst h;simp
 simp [h1,h2,h3,h4,h5,h6,h7,h8,h9] at h
set_option maxHeartbeats 8000000 in
theorem refOwn_any (S:Nat→Prop) (D:Nat) (f:FilD) (cs:List Value) (vd vm:Value) (ds ms:List ByteArray) (g:Int) (w:World) (hd:StrsSl w vd ds) (hm:StrsSl w vm ms) (td:Texts ds) (tm:Texts ms) (hf:FilS S w D cs f):
  Calls Tryz.prog 193 #[.agg #[vd,vm,.int .i64 g],.agg cs.toArray] w (BoolPost (filRightB ds ms g f) w):=by
 cases D with
 |zero=>simp [FilS] at hf
 |succ D=>
 obtain ⟨k,n,ws,fr,till,l⟩:=f
 unfold FilS at hf
 obtain ⟨vw,vl,rows,rfl,hn,hw,hwz,x1,x2,hl,x3⟩:=hf
 have HD:=hid (fun W (h:Below w.heap.size w W)=>refDim_any vd vm ds ms g n W (hd.below h) (hm.below h) td tm)
 have HWS:=hid hw.sl;have HWZ:=hid hwz
 obtain ⟨aw,cw,rfl,hw1,hw2,_⟩:=SlAt.shape hw.sl
 obtain ⟨al,cl,rfl,hl1,hl2,_⟩:=SlAt.shape hl.sl
 obtain ⟨ad,cd,rfl,_,_,_⟩:=SlAt.shape hd
 obtain ⟨am,cm,rfl,_,_,_⟩:=SlAt.shape hm
 have HB0:=hid (fun (x:Int) (a b:Int) W=>between14_any x a b W)
 unfold filRightB
 dsimp only
 generalize placeI (rightS ds ms g) (Lib.idxOfS ds n)=pi at*
 generalize placeB (rightS ds ms g) (Lib.idxOfS ds n)=pb at*
 have HLONG:Hid ((∃i,∃h:i<ws.length,longB ws[i]=true)→ws.any longB=true):=by
  rintro ⟨i,h,h2⟩
  rw [List.any_eq_true]
  exact ⟨_,List.getElem_mem h,h2⟩
 have HNONE:Hid ((∀i (h:i<ws.length),longB ws[i]=false)→ws.any longB=false):=by
  intro h
  rw [List.any_eq_false]
  intro x hx
  obtain ⟨i,hi,rfl⟩:=List.mem_iff_getElem.1 hx
  rw [h i hi]
  simp
 generalize ws.any longB=r3 at*
 obtain ⟨N,hN⟩:∃N,ws.length=N:=⟨_,rfl⟩
 have HN:=hid hN
 rw [hN] at hw1 ⊢
 unfold maxLen at hw2 hl2
 clear hd hm td tm hw hl hwz x1 x2 x3 hN
 generalize l.length=nl at*
 generalize ds.length=nd at*;generalize ms.length=nm at*
 unfold BoolPost
 obtain ⟨R,hR⟩:∃R,((formOf k).isSome&&((pb==(formD k).hn)&&((pb||n.toList==[])&&(((formD k).hs||(fr==0&&till==0))&&(two2B N (formD k).w0 (formD k).w1&&(two2B nl (formD k).f0 (formD k).f1&& !r3))))))=R:=⟨_,rfl⟩
 rw [hR]
 have HR:=hid hR
 clear hR
 go_enter Tryz.func193,Tryz.ntmps193
 go_upto_region 5 with fail
 (iterate 8 (first|go_values|go_skip|go_guarded|go_step|go_upon|go_back))
 obtain ⟨X,hX⟩:∃X,(w.alloc (.cells #[.slice ad nd cd,.slice am nm cm,.int .i64 g] 45)).alloc (.cells #[.int .i64 k,.string n,.slice aw N cw,.int .i64 fr,.int .i64 till,.slice al nl cl] 29)=X:=⟨_,rfl⟩
 have hB:Below w.heap.size w X:=by rw [←hX];exact Gr
 have b0:X.heap[w.heap.size]? =some (.cells #[.slice ad nd cd,.slice am nm cm,.int .i64 g] 45 (0,0)):=by rw [←hX];exact Bk
 have b1:X.heap[w.heap.size+1]? =some (.cells #[.int .i64 k,.string n,.slice aw N cw,.int .i64 fr,.int .i64 till,.slice al nl cl] 29 (0,0)):=by rw [←hX];exact Bk
 have s0:=cell_blk (i:=0) (x:= .slice ad nd cd) b0 rfl;have s1:=cell_blk (i:=1) (x:= .slice am nm cm) b0 rfl;have s2:=cell_blk (i:=2) (x:= .int .i64 g) b0 rfl
 have f0:=cell_blk (i:=0) (x:= .int .i64 k) b1 rfl;have f1:=cell_blk (i:=1) (x:= .string n) b1 rfl;have f2:=cell_blk (i:=2) (x:= .slice aw N cw) b1 rfl;have f3:=cell_blk (i:=3) (x:= .int .i64 fr) b1 rfl;have f4:=cell_blk (i:=4) (x:= .int .i64 till) b1 rfl;have f5:=cell_blk (i:=5) (x:= .slice al nl cl) b1 rfl
 have HB:=hid hB
 have HBB:=hid (And.intro b0 b1)
 have hz:=blk_lt b1
 rw [hX]
 clear hX hB b0 b1
 go_cut [5,6,7,8,9] (fun s5 s6 s7 s8 s9 wx=>wx=X∧∃f,formOf k=some f∧s5= .int .i64 f.w1∧s6= .int .i64 f.w0∧s7= .int .i64 f.f0∧s8= .int .i64 f.f1∧s9= .bool f.hn)
 case first=>
  by_cases h1:k=1
  ·subst h1;go_wp2_with fail;go_meet;exact ⟨rfl,_,rfl,rfl,rfl,rfl,rfl,rfl⟩
  by_cases h2:k=2
  ·subst h2;go_wp2_with fail;go_meet;exact ⟨rfl,_,rfl,rfl,rfl,rfl,rfl,rfl⟩
  by_cases h3:k=3
  ·subst h3;go_wp2_with fail;go_meet;exact ⟨rfl,_,rfl,rfl,rfl,rfl,rfl,rfl⟩
  by_cases h4:k=4
  ·subst h4;go_wp2_with fail;go_meet;exact ⟨rfl,_,rfl,rfl,rfl,rfl,rfl,rfl⟩
  by_cases h5:k=5
  ·subst h5;go_wp2_with fail;go_meet;exact ⟨rfl,_,rfl,rfl,rfl,rfl,rfl,rfl⟩
  by_cases h6:k=6
  ·subst h6;go_wp2_with fail;go_meet;exact ⟨rfl,_,rfl,rfl,rfl,rfl,rfl,rfl⟩
  by_cases h7:k=7
  ·subst h7;go_wp2_with fail;go_meet;exact ⟨rfl,_,rfl,rfl,rfl,rfl,rfl,rfl⟩
  by_cases h8:k=8
  ·subst h8;go_wp2_with fail;go_meet;exact ⟨rfl,_,rfl,rfl,rfl,rfl,rfl,rfl⟩
  by_cases h9:k=9
  ·subst h9;go_wp2_with fail;go_meet;exact ⟨rfl,_,rfl,rfl,rfl,rfl,rfl,rfl⟩
  have e1:(k==1)=false:=by simpa using h1
  have e2:(k==2)=false:=by simpa using h2
  have e3:(k==3)=false:=by simpa using h3
  have e4:(k==4)=false:=by simpa using h4
  have e5:(k==5)=false:=by simpa using h5
  have e6:(k==6)=false:=by simpa using h6
  have e7:(k==7)=false:=by simpa using h7
  have e8:(k==8)=false:=by simpa using h8
  have e9:(k==9)=false:=by simpa using h9
  have hF:formOf k=none:=by unfold formOf;simp [h1,h2,h3,h4,h5,h6,h7,h8,h9]
  have HRF:Hid (R=false):=by unfold Hid;rw [←HR.out,hF];rfl
  clear hF
  go_wp2_with fail
  go_ret
  exact ⟨ret_bool HRF.out.symm,HB.out⟩
 case rest=>
  obtain ⟨rfl,fm,hfm,rfl,rfl,rfl,rfl,rfl⟩:=hcut
  obtain ⟨k1,k9,k6⟩:=formOf_cases hfm
  have hfd:formD k=fm:=by unfold formD;rw [hfm];rfl
  have hR2:=HR.out
  rw [hfm,hfd] at hR2
  clear hfm hfd HR
  obtain ⟨hn',hs,w0,w1,f0',f1'⟩:=fm
  dsimp only at k6 hR2 ⊢
  have H1:=hid (fun W=>HB0.out (N:Int) w0 w1 W)
  have H2:=hid (fun W=>HB0.out (nl:Int) f0' f1' W)
  clear HB0
  unfold two2B at hR2
  generalize (decide (w0≤(N:Int))&&decide ((N:Int)≤w1))=r1 at*
  generalize (decide (f0'≤(nl:Int))&&decide ((nl:Int)≤f1'))=r2 at*
  have HR:=hid hR2
  clear hR2
  go_wp2_with fail
  go_loop [10] (fun i=>∃j:Nat,j≤N∧i= .int .i64 (j:Int)∧∀i (h:i<ws.length),i<j→longB ws[i]=false) (fun i=>N-(intOf i).toNat)
  case atStart=>exact ⟨0,Nat.zero_le _,rfl,fun i _ h=>absurd h (Nat.not_lt_zero i)⟩
  case round=>
   obtain ⟨j,hj,rfl,hlg⟩:=hrel
   have HLG:=hid hlg
   clear hlg
   have g1:(0:Int)≤(j:Int):=Int.natCast_nonneg _
   by_cases hjN:j<N
   ·have hI:(j:Int)<(N:Int):=by omega
    have hlen:j<ws.length:=by rw [HN.out];exact hjN
    obtain ⟨b,off,rfl,hcell⟩:=(SlAt.parts HWS.out).2.2.2.2 (by simp;omega)
    have ck:=hcell j (.string ws[j]) (by rw [List.getElem?_map,List.getElem?_eq_getElem hlen];rfl)
    have dk:=cell_step ck HB.out
    have hzs:=HWZ.out ws[j] (List.getElem_mem hlen)
    have HL1:=hid (fun h=>HLONG.out ⟨j,hlen,h⟩)
    have HL2:Hid (longB ws[j]=false→∀i (h:i<ws.length),i<j+1→longB ws[i]=false):=fun h0 i h h2=>by
     by_cases h3:i<j
     ·exact HLG.out i h h3
     ·obtain rfl:i=j:=by omega
      exact h0
    generalize ws[j]=s at*
    clear ck hcell HLG
    unfold longB at HL1 HL2
    by_cases hs100:100<s.size
    ·have hsI:(100:Int)<(s.size:Int):=by omega
     have hr3:=HL1.out (by simpa using hs100)
     have HRF:Hid (R=false):=by have:=HR.out;unfold Hid;rw [←this,hr3];simp
     clear hr3
     go_wp2
     go_ret
     exact ⟨ret_bool HRF.out.symm,HB.out⟩
    ·have hsI:¬(100:Int)<(s.size:Int):=by omega
     have HL3:=hid (HL2.out (by simpa using hs100))
     go_wp2
     go_round
     case rel=>exact ⟨j+1,hjN,by go_num,HL3.out⟩
     case measure=>simp [intOf];omega
   ·obtain rfl:j=N:=by omega
    have hr3:r3=false:=HNONE.out (fun i h=>HLG.out i h (by rw [HN.out] at h;exact h))
    clear HLG HNONE HLONG
    subst hr3
    have hcase:(n.toList=[]∧(n.toList==[])=true)∨(n.toList==[])=false:=by
     by_cases h:n.toList=[]
     ·exact .inl ⟨h,by rw [h];rfl⟩
     ·exact .inr (by simpa using h)
    have hsp:(fr=0∧till=0)∨((fr==0)=true∧(till==0)=false)∨(fr==0)=false:=by
     by_cases h:fr=0
     ·by_cases h2:till=0
      ·exact .inl ⟨h,h2⟩
      ·exact .inr (.inl ⟨by simpa using h,by simpa using h2⟩)
     ·exact .inr (.inr (by simpa using h))
    have hk6:(k=6∧hs=true)∨((k==6)=false∧hs=false):=by
     by_cases h:k=6
     ·exact .inl ⟨h,k6.2 h⟩
     ·refine .inr ⟨by simpa using h,?_⟩
      cases hs
      ·rfl
      ·exact absurd (k6.1 rfl) h
    clear k6 k1 k9 hj
    go_wp2_with (first
     |(go_at_call 131;go_loud ((with_reducible refine (HD.out _ HB.out).mono ?_);rintro e w5 ⟨rfl,hb5⟩;obtain ⟨hc5,hf5,hk5,hz5⟩:=bcell3 hb5;have:w.heap.size<w5.heap.size:=(by omega);have:w.heap.size+1<w5.heap.size:=(by omega)))
     |(go_at_call 232;go_loud (first|((with_reducible refine (H1.out _).mono ?_);rintro e w6 ⟨rfl,rfl⟩)|((with_reducible refine (H2.out _).mono ?_);rintro e w7 ⟨rfl,rfl⟩))))
    all_goals
     go_ret
     exact ⟨ret_bool (by have hR:=HR.out;rw [←hR];clear HR hR HD H1 H2 HBB HWS HWZ HN;simp_all),HB.out.step Gr⟩
theorem allN_no {R:FilD→Bool} {D:Nat} {l:List FilD} {j:Nat} (hj:j<l.length) (h:allN R D l[j]=false):l.all (allN R D)=false:=by
 rw [List.all_eq_false]
 exact ⟨_,List.getElem_mem hj,by rw [h];simp⟩
theorem allN_yes {R:FilD→Bool} {D:Nat} {l:List FilD} (h:∀i (hi:i<l.length),allN R D l[i]=true):l.all (allN R D)=true:=by
 rw [List.all_eq_true]
 intro x hx
 obtain ⟨i,hi,rfl⟩:=List.mem_iff_getElem.1 hx
 exact h i hi
def refAllSpec (D:Nat):Prop:=∀(S:Nat→Prop) (f:FilD) (cs:List Value) (vd vm:Value) (ds ms:List ByteArray) (g:Int) (w:World),StrsSl w vd ds→StrsSl w vm ms→Texts ds→Texts ms→FilS S w D cs f→Calls Tryz.prog 136 #[.agg #[vd,vm,.int .i64 g],.agg cs.toArray] w fun e w'=>e= .returned (.bool (allN (filRightB ds ms g) D f))∧Below w.heap.size w w'
set_option maxHeartbeats 8000000 in
theorem refAll_step (D:Nat) (ih:refAllSpec D):refAllSpec (D+1):=by
 intro S f cs vd vm ds ms g w hd hm td tm hf
 have hf0:=hf
 obtain ⟨k,n,ws,fr,till,l⟩:=f
 unfold FilS at hf
 obtain ⟨vw,vl,rows,rfl,hn,hw,hws,hrl,hr6,hl,hrec⟩:=hf
 have HO:=hid (fun W (h:Below w.heap.size w W)=>refOwn_any S (D+1) _ _ vd vm ds ms g W (hd.below h) (hm.below h) td tm (hf0.below h))
 obtain ⟨aw,cw,rfl,_⟩:=SlAt.shape hw.sl
 obtain ⟨al,cl,rfl,l1,l2,l3⟩:=SlAt.shape hl.sl
 have HL:=hid hl.sl;have HRL:=hid hrl;have HR6:=hid hr6;have HREC:=hid hrec
 have HDD:=hid hd;have HMM:=hid hm;have HTD:=hid td;have HTM:=hid tm
 have HNO:=hid (fun j hj h=>allN_no (R:=filRightB ds ms g) (D:=D) (l:=l) (j:=j) hj h)
 have HYES:=hid (allN_yes (R:=filRightB ds ms g) (D:=D) (l:=l))
 unfold allN
 generalize l.all (allN (filRightB ds ms g) D)=ra at*
 obtain ⟨ad,cd,rfl,_,_,_⟩:=SlAt.shape hd
 obtain ⟨am,cm,rfl,_,_,_⟩:=SlAt.shape hm
 generalize ds.length=nd at*;generalize ms.length=nm at*
 unfold maxLen at l2
 generalize ws.length=m1 at*
 obtain ⟨L,hL⟩:∃L,l.length=L:=⟨_,rfl⟩
 have HLL:=hid hL
 rw [hL] at l1 ⊢
 clear hd hm td tm hw hl hws hrl hr6 hrec hL hn hf0
 rw [HLL.out] at HO
 unfold BoolPost at HO
 generalize filRightB ds ms g (.mk k n ws fr till l)=r at*
 cases r
 ·rw [Bool.false_and]
  go_enter Tryz.func136,Tryz.ntmps136
  go_wp2_with (go_at_call 193;go_loud ((with_reducible refine (HO.out _ Gr).mono ?_);rintro e w1 ⟨rfl,hb1⟩))
  go_ret
  exact ⟨rfl,Gr⟩
 ·rw [Bool.true_and]
  go_enter Tryz.func136,Tryz.ntmps136
  go_wp2_with (go_at_call 193;go_loud ((with_reducible refine (HO.out _ Gr).mono ?_);rintro e w1 ⟨rfl,hb1⟩;have HST:=hid (⟨Gr,blk_below Bk hb1,blk_below Bk hb1⟩:Below w.heap.size w w1∧w1.heap[w.heap.size]? =some (.cells #[.slice ad nd cd,.slice am nm cm,.int .i64 g] 45 (0,0))∧w1.heap[w.heap.size+1]? =some (outC k n (.slice aw m1 cw) fr till (.slice al L cl)))))
  skip
  go_loopw [5] (fun i wr=>∃j:Nat,j≤L∧i= .int .i64 (j:Nat)∧Below w.heap.size w wr∧wr.heap[w.heap.size]? =some (.cells #[.slice ad nd cd,.slice am nm cm,.int .i64 g] 45 (0,0))∧wr.heap[w.heap.size+1]? =some (outC k n (.slice aw m1 cw) fr till (.slice al L cl))∧∀i (hi:i<l.length),i<j→allN (filRightB ds ms g) D l[i]=true) (fun i _=>L-(intOf i).toNat)
  case atStart=>exact ⟨0,Nat.zero_le _,rfl,HST.out.1,HST.out.2.1,HST.out.2.2,fun i _ h=>absurd h (Nat.not_lt_zero i)⟩
  case round=>
   obtain ⟨j,hj,rfl,hbel,y0,y1,hall⟩:=hrel
   have HALL:=hid hall
   clear hall
   have g1:(0:Int)≤(j:Int):=Int.natCast_nonneg _
   have s0:=World.plus_cell (cell_blk (i:=0) (x:= .slice ad nd cd) y0 rfl);have s1:=World.plus_cell (cell_blk (i:=1) (x:= .slice am nm cm) y0 rfl);have s2:=World.plus_cell (cell_blk (i:=2) (x:= .int .i64 g) y0 rfl)
   have u2:wr.cell? ⟨w.heap.size+1,5,none⟩=some (.slice al L cl):=cell_blk y1 rfl
   have pu2:=World.plus_cell u2
   have zb0:w.heap.size+1<wr.heap.size:=blk_lt y1
   by_cases hjL:j<L
   ·have hjl:j<l.length:=by have:=HLL.out;omega
    have hI:(j:Int)<(L:Int):=by omega
    obtain ⟨bl,ol,rfl,hcell⟩:=(SlAt.parts HL.out).2.2.2.2 (by rw [(SlAt.len HL.out)];omega)
    have hjr:j<rows.length:=by rw [HRL.out];exact hjl
    have hfr:=HREC.out j hjl rows[j] (List.getElem?_eq_getElem hjr)
    have hcr:∀i u,i<6→rows[j][i]? =some u→w.cell? ⟨bl,ol+(j*6+i),none⟩=some u:=fun i u h6 hu=>hcell _ _ ((flatten_at HR6.out (List.getElem?_eq_getElem hjr) h6).trans hu)
    have HI:=hid (fun x=>ih S l[j] rows[j] _ _ ds ms g (World.plus wr x) (HDD.out.below (hbel.step (World.plus_below wr x))) (HMM.out.below (hbel.step (World.plus_below wr x))) HTD.out HTM.out (hfr.below (hbel.step (World.plus_below wr x))))
    have HNJ:=hid (HNO.out j hjl)
    have HYJ:Hid (allN (filRightB ds ms g) D l[j]=true→∀i (hi:i<l.length),i<j+1→allN (filRightB ds ms g) D l[i]=true):=fun h0 i h h2=>by
     by_cases h3:i<j
     ·exact HALL.out i h h3
     ·obtain rfl:i=j:=by omega
      exact h0
    generalize rows[j]=row at*
    generalize l[j]=fj at*
    generalize allN (filRightB ds ms g) D fj=rj at*
    cases D with
    |zero=>simp [FilS] at hfr
    |succ D=>
    obtain ⟨k2,n2,ws2,fr2,till2,l2'⟩:=fj
    unfold FilS at hfr
    obtain ⟨vw2,vl2,rows2,rfl,t1,hw2,t2,t3,t4,hl2,t5⟩:=hfr
    clear t1 t2 t3 t4 t5
    obtain ⟨aw2,cw2,rfl,_⟩:=SlAt.shape hw2.sl
    obtain ⟨al2,cl2,rfl,_⟩:=SlAt.shape hl2.sl
    have b0:=cell_step (hcr 0 _ (by decide) rfl) hbel;have b1:=cell_step (hcr 1 _ (by decide) rfl) hbel;have b2:=cell_step (hcr 2 _ (by decide) rfl) hbel;have b3:=cell_step (hcr 3 _ (by decide) rfl) hbel;have b4:=cell_step (hcr 4 _ (by decide) rfl) hbel;have b5:=cell_step (hcr 5 _ (by decide) rfl) hbel
    rw [Nat.add_zero] at b0
    rw [←Nat.add_assoc] at b1 b2 b3 b4 b5
    have pb0:=World.plus_cell b0;have pb1:=World.plus_cell b1;have pb2:=World.plus_cell b2;have pb3:=World.plus_cell b3;have pb4:=World.plus_cell b4;have pb5:=World.plus_cell b5
    have HB:=hid hbel;have HY:=hid (And.intro y0 y1)
    clear hcell hcr hw2 hl2 hbel y0 y1 b0 b1 b2 b3 b4 b5
    generalize ws2.length=m2 at*
    generalize l2'.length=m3 at*
    go_wp2_with fail
    refine wp_region_plus (by kernel_rfl) (by kernel_rfl) ?_
    repeat (first|go_big_quiet_skip|(go_big_quiet_want;go_big_quiet_op;first|go_big_quiet_on|go_big_quiet_call (((go_at_call 136;exact Calls.plus_of (HI.out _))))))
    refine wpQuiet_nil ?_
    rintro _ ⟨xq,rfl⟩
    have kB:=hid (World.plus_below wr xq)
    have HB2:=hid (HB.out.step (World.plus_below wr xq))
    cases rj
    ·have hra:ra=false:=HNJ.out rfl
     subst hra
     go_wp2
     go_ret
     exact ⟨rfl,HB2.out⟩
    ·have HY2:=hid (HYJ.out rfl)
     go_wp2
     go_roundw
     case rel=>exact ⟨j+1,hjL,by go_num,HB2.out,blk_below HY.out.1 kB.out,blk_below HY.out.2 kB.out,HY2.out⟩
     case measure=>simp [intOf];omega
   ·obtain rfl:j=L:=by omega
    have hra:ra=true:=HYES.out (fun i hi=>HALL.out i hi (by rw [HLL.out] at hi;exact hi))
    have HB:=hid hbel
    subst hra
    clear hbel
    go_wp2
    go_ret
    exact ⟨rfl,HB.out⟩
theorem refAll_any:∀D,refAllSpec D
 |0=>fun S f cs vd vm ds ms g w _ _ _ _ hf=>by simp [FilS] at hf
 |D+1=>refAll_step D (refAll_any D)
def refFits14Spec (D:Nat):Prop:=∀(S:Nat→Prop) (f:FilD) (cs:List Value) (vd vm:Value) (ds ms:List ByteArray) (g:Int) (w:World),StrsSl w vd ds→StrsSl w vm ms→Texts ds→Texts ms→FilS S w D cs f→Calls Tryz.prog 137 #[.agg #[vd,vm,.int .i64 g],.agg cs.toArray] w fun e w'=>e= .returned (.bool (allN (gOkF g) D f))∧Below w.heap.size w w'
set_option maxHeartbeats 8000000 in
theorem refFits14_step (D:Nat) (ih:refFits14Spec D):refFits14Spec (D+1):=by
 intro S f cs vd vm ds ms g w hd hm td tm hf
 have hf0:=hf
 obtain ⟨k,n,ws,fr,till,l⟩:=f
 unfold FilS at hf
 obtain ⟨vw,vl,rows,rfl,hn,hw,hws,hrl,hr6,hl,hrec⟩:=hf
 have HO:=hid (fun W=>gRefFits_any fr till g W)
 obtain ⟨aw,cw,rfl,_⟩:=SlAt.shape hw.sl
 obtain ⟨al,cl,rfl,l1,l2,l3⟩:=SlAt.shape hl.sl
 have HL:=hid hl.sl;have HRL:=hid hrl;have HR6:=hid hr6;have HREC:=hid hrec
 have HDD:=hid hd;have HMM:=hid hm;have HTD:=hid td;have HTM:=hid tm
 have HNO:=hid (fun j hj h=>allN_no (R:=gOkF g) (D:=D) (l:=l) (j:=j) hj h)
 have HYES:=hid (allN_yes (R:=gOkF g) (D:=D) (l:=l))
 unfold allN
 generalize l.all (allN (gOkF g) D)=ra at*
 obtain ⟨ad,cd,rfl,_,_,_⟩:=SlAt.shape hd
 obtain ⟨am,cm,rfl,_,_,_⟩:=SlAt.shape hm
 generalize ds.length=nd at*;generalize ms.length=nm at*
 unfold maxLen at l2
 generalize ws.length=m1 at*
 obtain ⟨L,hL⟩:∃L,l.length=L:=⟨_,rfl⟩
 have HLL:=hid hL
 rw [hL] at l1 ⊢
 clear hd hm td tm hw hl hws hrl hr6 hrec hL hn hf0
 have HG:Hid (gOkF g (.mk k n ws fr till l)= !(k==6&& !gFitsB fr till g)):=rfl
 rw [HG.out]
 clear HG
 generalize gFitsB fr till g=ft at*
 have hk6:(k=6∧ft=false)∨(k=6∧ft=true)∨(k==6)=false:=by
  by_cases h:k=6
  ·cases ft
   ·exact .inl ⟨h,rfl⟩
   ·exact .inr (.inl ⟨h,rfl⟩)
  ·exact .inr (.inr (by simpa using h))
 rcases hk6 with ⟨rfl,rfl⟩|⟨rfl,rfl⟩|hk6
 ·have e1:Hid ((!((6:Int)==6&& !false))=false):=rfl
  rw [e1.out,Bool.false_and]
  go_enter Tryz.func137,Tryz.ntmps137
  go_wp2_with (go_at_call 194;go_loud ((with_reducible refine (HO.out _).mono ?_);rintro e w1 ⟨rfl,hb1⟩))
  go_ret
  exact ⟨rfl,Gr⟩
 ·have e1:Hid ((!((6:Int)==6&& !true))=true):=rfl
  rw [e1.out,Bool.true_and]
  go_enter Tryz.func137,Tryz.ntmps137
  go_wp2_with (go_at_call 194;go_loud ((with_reducible refine (HO.out _).mono ?_);rintro e w1 ⟨rfl,hb1⟩;have HST:=hid (⟨Gr,blk_below Bk hb1,blk_below Bk hb1⟩:Below w.heap.size w w1∧w1.heap[w.heap.size]? =some (.cells #[.slice ad nd cd,.slice am nm cm,.int .i64 g] 45 (0,0))∧w1.heap[w.heap.size+1]? =some (outC 6 n (.slice aw m1 cw) fr till (.slice al L cl)))))
  skip
  go_loopw [5] (fun i wr=>∃j:Nat,j≤L∧i= .int .i64 (j:Nat)∧Below w.heap.size w wr∧wr.heap[w.heap.size]? =some (.cells #[.slice ad nd cd,.slice am nm cm,.int .i64 g] 45 (0,0))∧wr.heap[w.heap.size+1]? =some (outC 6 n (.slice aw m1 cw) fr till (.slice al L cl))∧∀i (hi:i<l.length),i<j→allN (gOkF g) D l[i]=true) (fun i _=>L-(intOf i).toNat)
  case atStart=>exact ⟨0,Nat.zero_le _,rfl,HST.out.1,HST.out.2.1,HST.out.2.2,fun i _ h=>absurd h (Nat.not_lt_zero i)⟩
  case round=>
   obtain ⟨j,hj,rfl,hbel,y0,y1,hall⟩:=hrel
   have HALL:=hid hall
   clear hall
   have g1:(0:Int)≤(j:Int):=Int.natCast_nonneg _
   have s0:=World.plus_cell (cell_blk (i:=0) (x:= .slice ad nd cd) y0 rfl);have s1:=World.plus_cell (cell_blk (i:=1) (x:= .slice am nm cm) y0 rfl);have s2:=World.plus_cell (cell_blk (i:=2) (x:= .int .i64 g) y0 rfl)
   have u2:wr.cell? ⟨w.heap.size+1,5,none⟩=some (.slice al L cl):=cell_blk y1 rfl
   have pu2:=World.plus_cell u2
   have zb0:w.heap.size+1<wr.heap.size:=blk_lt y1
   by_cases hjL:j<L
   ·have hjl:j<l.length:=by have:=HLL.out;omega
    have hI:(j:Int)<(L:Int):=by omega
    obtain ⟨bl,ol,rfl,hcell⟩:=(SlAt.parts HL.out).2.2.2.2 (by rw [(SlAt.len HL.out)];omega)
    have hjr:j<rows.length:=by rw [HRL.out];exact hjl
    have hfr:=HREC.out j hjl rows[j] (List.getElem?_eq_getElem hjr)
    have hcr:∀i u,i<6→rows[j][i]? =some u→w.cell? ⟨bl,ol+(j*6+i),none⟩=some u:=fun i u h6 hu=>hcell _ _ ((flatten_at HR6.out (List.getElem?_eq_getElem hjr) h6).trans hu)
    have HI:=hid (fun x=>ih S l[j] rows[j] _ _ ds ms g (World.plus wr x) (HDD.out.below (hbel.step (World.plus_below wr x))) (HMM.out.below (hbel.step (World.plus_below wr x))) HTD.out HTM.out (hfr.below (hbel.step (World.plus_below wr x))))
    have HNJ:=hid (HNO.out j hjl)
    have HYJ:Hid (allN (gOkF g) D l[j]=true→∀i (hi:i<l.length),i<j+1→allN (gOkF g) D l[i]=true):=fun h0 i h h2=>by
     by_cases h3:i<j
     ·exact HALL.out i h h3
     ·obtain rfl:i=j:=by omega
      exact h0
    generalize rows[j]=row at*
    generalize l[j]=fj at*
    generalize allN (gOkF g) D fj=rj at*
    cases D with
    |zero=>simp [FilS] at hfr
    |succ D=>
    obtain ⟨k2,n2,ws2,fr2,till2,l2'⟩:=fj
    unfold FilS at hfr
    obtain ⟨vw2,vl2,rows2,rfl,t1,hw2,t2,t3,t4,hl2,t5⟩:=hfr
    clear t1 t2 t3 t4 t5
    obtain ⟨aw2,cw2,rfl,_⟩:=SlAt.shape hw2.sl
    obtain ⟨al2,cl2,rfl,_⟩:=SlAt.shape hl2.sl
    have b0:=cell_step (hcr 0 _ (by decide) rfl) hbel;have b1:=cell_step (hcr 1 _ (by decide) rfl) hbel;have b2:=cell_step (hcr 2 _ (by decide) rfl) hbel;have b3:=cell_step (hcr 3 _ (by decide) rfl) hbel;have b4:=cell_step (hcr 4 _ (by decide) rfl) hbel;have b5:=cell_step (hcr 5 _ (by decide) rfl) hbel
    rw [Nat.add_zero] at b0
    rw [←Nat.add_assoc] at b1 b2 b3 b4 b5
    have pb0:=World.plus_cell b0;have pb1:=World.plus_cell b1;have pb2:=World.plus_cell b2;have pb3:=World.plus_cell b3;have pb4:=World.plus_cell b4;have pb5:=World.plus_cell b5
    have HB:=hid hbel;have HY:=hid (And.intro y0 y1)
    clear hcell hcr hw2 hl2 hbel y0 y1 b0 b1 b2 b3 b4 b5
    generalize ws2.length=m2 at*
    generalize l2'.length=m3 at*
    go_wp2_with fail
    refine wp_region_plus (by kernel_rfl) (by kernel_rfl) ?_
    repeat (first|go_big_quiet_skip|(go_big_quiet_want;go_big_quiet_op;first|go_big_quiet_on|go_big_quiet_call (((go_at_call 137;exact Calls.plus_of (HI.out _))))))
    refine wpQuiet_nil ?_
    rintro _ ⟨xq,rfl⟩
    have kB:=hid (World.plus_below wr xq)
    have HB2:=hid (HB.out.step (World.plus_below wr xq))
    cases rj
    ·have hra:ra=false:=HNJ.out rfl
     subst hra
     go_wp2
     go_ret
     exact ⟨rfl,HB2.out⟩
    ·have HY2:=hid (HYJ.out rfl)
     go_wp2
     go_roundw
     case rel=>exact ⟨j+1,hjL,by go_num,HB2.out,blk_below HY.out.1 kB.out,blk_below HY.out.2 kB.out,HY2.out⟩
     case measure=>simp [intOf];omega
   ·obtain rfl:j=L:=by omega
    have hra:ra=true:=HYES.out (fun i hi=>HALL.out i hi (by rw [HLL.out] at hi;exact hi))
    have HB:=hid hbel
    subst hra
    clear hbel
    go_wp2
    go_ret
    exact ⟨rfl,HB.out⟩
 ·rw [hk6]
  have e1:Hid ((!(false&& !ft))=true):=rfl
  rw [e1.out,Bool.true_and]
  go_enter Tryz.func137,Tryz.ntmps137
  go_wp2_with fail
  have HST:=hid (⟨Gr,Bk,Bk⟩:Below w.heap.size w ((w.alloc (.cells #[.slice ad nd cd,.slice am nm cm,.int .i64 g] 45)).alloc (.cells #[.int .i64 k,.string n,.slice aw m1 cw,.int .i64 fr,.int .i64 till,.slice al L cl] 29))∧((w.alloc (.cells #[.slice ad nd cd,.slice am nm cm,.int .i64 g] 45)).alloc (.cells #[.int .i64 k,.string n,.slice aw m1 cw,.int .i64 fr,.int .i64 till,.slice al L cl] 29)).heap[w.heap.size]? =some (.cells #[.slice ad nd cd,.slice am nm cm,.int .i64 g] 45 (0,0))∧((w.alloc (.cells #[.slice ad nd cd,.slice am nm cm,.int .i64 g] 45)).alloc (.cells #[.int .i64 k,.string n,.slice aw m1 cw,.int .i64 fr,.int .i64 till,.slice al L cl] 29)).heap[w.heap.size+1]? =some (outC k n (.slice aw m1 cw) fr till (.slice al L cl)))
  skip
  go_loopw [5] (fun i wr=>∃j:Nat,j≤L∧i= .int .i64 (j:Nat)∧Below w.heap.size w wr∧wr.heap[w.heap.size]? =some (.cells #[.slice ad nd cd,.slice am nm cm,.int .i64 g] 45 (0,0))∧wr.heap[w.heap.size+1]? =some (outC k n (.slice aw m1 cw) fr till (.slice al L cl))∧∀i (hi:i<l.length),i<j→allN (gOkF g) D l[i]=true) (fun i _=>L-(intOf i).toNat)
  case atStart=>exact ⟨0,Nat.zero_le _,rfl,HST.out.1,HST.out.2.1,HST.out.2.2,fun i _ h=>absurd h (Nat.not_lt_zero i)⟩
  case round=>
   obtain ⟨j,hj,rfl,hbel,y0,y1,hall⟩:=hrel
   have HALL:=hid hall
   clear hall
   have g1:(0:Int)≤(j:Int):=Int.natCast_nonneg _
   have s0:=World.plus_cell (cell_blk (i:=0) (x:= .slice ad nd cd) y0 rfl);have s1:=World.plus_cell (cell_blk (i:=1) (x:= .slice am nm cm) y0 rfl);have s2:=World.plus_cell (cell_blk (i:=2) (x:= .int .i64 g) y0 rfl)
   have u2:wr.cell? ⟨w.heap.size+1,5,none⟩=some (.slice al L cl):=cell_blk y1 rfl
   have pu2:=World.plus_cell u2
   have zb0:w.heap.size+1<wr.heap.size:=blk_lt y1
   by_cases hjL:j<L
   ·have hjl:j<l.length:=by have:=HLL.out;omega
    have hI:(j:Int)<(L:Int):=by omega
    obtain ⟨bl,ol,rfl,hcell⟩:=(SlAt.parts HL.out).2.2.2.2 (by rw [(SlAt.len HL.out)];omega)
    have hjr:j<rows.length:=by rw [HRL.out];exact hjl
    have hfr:=HREC.out j hjl rows[j] (List.getElem?_eq_getElem hjr)
    have hcr:∀i u,i<6→rows[j][i]? =some u→w.cell? ⟨bl,ol+(j*6+i),none⟩=some u:=fun i u h6 hu=>hcell _ _ ((flatten_at HR6.out (List.getElem?_eq_getElem hjr) h6).trans hu)
    have HI:=hid (fun x=>ih S l[j] rows[j] _ _ ds ms g (World.plus wr x) (HDD.out.below (hbel.step (World.plus_below wr x))) (HMM.out.below (hbel.step (World.plus_below wr x))) HTD.out HTM.out (hfr.below (hbel.step (World.plus_below wr x))))
    have HNJ:=hid (HNO.out j hjl)
    have HYJ:Hid (allN (gOkF g) D l[j]=true→∀i (hi:i<l.length),i<j+1→allN (gOkF g) D l[i]=true):=fun h0 i h h2=>by
     by_cases h3:i<j
     ·exact HALL.out i h h3
     ·obtain rfl:i=j:=by omega
      exact h0
    generalize rows[j]=row at*
    generalize l[j]=fj at*
    generalize allN (gOkF g) D fj=rj at*
    cases D with
    |zero=>simp [FilS] at hfr
    |succ D=>
    obtain ⟨k2,n2,ws2,fr2,till2,l2'⟩:=fj
    unfold FilS at hfr
    obtain ⟨vw2,vl2,rows2,rfl,t1,hw2,t2,t3,t4,hl2,t5⟩:=hfr
    clear t1 t2 t3 t4 t5
    obtain ⟨aw2,cw2,rfl,_⟩:=SlAt.shape hw2.sl
    obtain ⟨al2,cl2,rfl,_⟩:=SlAt.shape hl2.sl
    have b0:=cell_step (hcr 0 _ (by decide) rfl) hbel;have b1:=cell_step (hcr 1 _ (by decide) rfl) hbel;have b2:=cell_step (hcr 2 _ (by decide) rfl) hbel;have b3:=cell_step (hcr 3 _ (by decide) rfl) hbel;have b4:=cell_step (hcr 4 _ (by decide) rfl) hbel;have b5:=cell_step (hcr 5 _ (by decide) rfl) hbel
    rw [Nat.add_zero] at b0
    rw [←Nat.add_assoc] at b1 b2 b3 b4 b5
    have pb0:=World.plus_cell b0;have pb1:=World.plus_cell b1;have pb2:=World.plus_cell b2;have pb3:=World.plus_cell b3;have pb4:=World.plus_cell b4;have pb5:=World.plus_cell b5
    have HB:=hid hbel;have HY:=hid (And.intro y0 y1)
    clear hcell hcr hw2 hl2 hbel y0 y1 b0 b1 b2 b3 b4 b5
    generalize ws2.length=m2 at*
    generalize l2'.length=m3 at*
    go_wp2_with fail
    refine wp_region_plus (by kernel_rfl) (by kernel_rfl) ?_
    repeat (first|go_big_quiet_skip|(go_big_quiet_want;go_big_quiet_op;first|go_big_quiet_on|go_big_quiet_call (((go_at_call 137;exact Calls.plus_of (HI.out _))))))
    refine wpQuiet_nil ?_
    rintro _ ⟨xq,rfl⟩
    have kB:=hid (World.plus_below wr xq)
    have HB2:=hid (HB.out.step (World.plus_below wr xq))
    cases rj
    ·have hra:ra=false:=HNJ.out rfl
     subst hra
     go_wp2
     go_ret
     exact ⟨rfl,HB2.out⟩
    ·have HY2:=hid (HYJ.out rfl)
     go_wp2
     go_roundw
     case rel=>exact ⟨j+1,hjL,by go_num,HB2.out,blk_below HY.out.1 kB.out,blk_below HY.out.2 kB.out,HY2.out⟩
     case measure=>simp [intOf];omega
   ·obtain rfl:j=L:=by omega
    have hra:ra=true:=HYES.out (fun i hi=>HALL.out i hi (by rw [HLL.out] at hi;exact hi))
    have HB:=hid hbel
    subst hra
    clear hbel
    go_wp2
    go_ret
    exact ⟨rfl,HB.out⟩
theorem refFits14_any:∀D,refFits14Spec D
 |0=>fun S f cs vd vm ds ms g w _ _ _ _ hf=>by simp [FilS] at hf
 |D+1=>refFits14_step D (refFits14_any D)
set_option maxHeartbeats 4000000 in
theorem refCheck14_any (S:Nat→Prop) (D:Nat) (cs:List Value) (f:FilD) (vd vm:Value) (ds ms:List ByteArray) (g:Int) (w:World) (hd:StrsSl w vd ds) (hm:StrsSl w vm ms) (td:Texts ds) (tm:Texts ms)
  (hf:FilS S w D cs f) (hD:D≤900) (hc:countN D f≤1000000000000):
  Calls Tryz.prog 72 #[.agg #[vd,vm,.int .i64 g],.agg cs.toArray] w (IntPost (checkFil ds ms g (flatN D 1 f):Nat) w):=by
 rw [checkFil_ref]
 unfold refResF IntPost
 have HR:=hid (fun W (h:Below w.heap.size w W)=>refRight_any vd vm ds ms g W (hd.below h) (hm.below h) td tm)
 have HC:=hid (fun W (h:Below w.heap.size w W)=>count_any D S f cs W (hf.below h) hc)
 have HP:=hid (fun W (h:Below w.heap.size w W)=>deep_any D S f cs W (hf.below h) (by omega))
 have HA:=hid (fun W (h:Below w.heap.size w W)=>refAll_any D S f cs vd vm ds ms g W (hd.below h) (hm.below h) td tm (hf.below h))
 have HF:=hid (fun W (h:Below w.heap.size w W)=>refFits14_any D S f cs vd vm ds ms g W (hd.below h) (hm.below h) td tm (hf.below h))
 have hdd:=deepN_le D f
 generalize rightS ds ms g=b at*
 generalize countN D f=C at*
 generalize deepN D f=P at*
 generalize allN (filRightB ds ms g) D f=ra at*
 generalize allN (gOkF g) D f=rf at*
 obtain ⟨k,nm,aw,lw,cw,fr,till,al,ll,cl,rfl⟩:=hf.six
 obtain ⟨ad,cd,rfl,_,_,_⟩:=SlAt.shape hd
 obtain ⟨am',cm,rfl,_,_,_⟩:=SlAt.shape hm
 generalize ds.length=nd at*;generalize ms.length=nm' at*
 clear hd hm td tm hf
 cases b
 ·rw [if_neg (by simp)]
  go_enter Tryz.func72,Tryz.ntmps72
  go_wp2_with (go_at_call 69;go_loud ((with_reducible refine (HR.out _ Gr).mono ?_);rintro e w1 ⟨rfl,hb1⟩))
  go_ret
  exact ⟨rfl,Gr⟩
 ·rw [if_pos rfl]
  by_cases h40:40<C
  ·have hI:(40:Int)<(C:Int):=by omega
   rw [if_pos (by simpa using h40)]
   go_enter Tryz.func72,Tryz.ntmps72
   go_wp2_with (first
    |(go_at_call 69;go_loud ((with_reducible refine (HR.out _ Gr).mono ?_);rintro e w1 ⟨rfl,hb1⟩;obtain ⟨hc1,hf1,hk1,hz1⟩:=bcell3 hb1;(try simp only [World.size_alloc,World.size_drew] at hz1);have:w.heap.size<w1.heap.size:=(by omega);have:w.heap.size+1<w1.heap.size:=(by omega)))
    |(go_at_call 53;go_loud ((with_reducible refine (HC.out _ Gr).mono ?_);rintro e w2 ⟨rfl,hb2⟩)))
   go_ret
   exact ⟨rfl,Gr⟩
  ·have hI:¬(40:Int)<(C:Int):=by omega
   have hId:decide ((40:Int)<(C:Int))=false:=by simpa using hI
   rw [if_neg (by simpa using h40)]
   by_cases h6:6<P
   ·have hJ:(6:Int)<(P:Int):=by omega
    rw [if_pos (by simpa using h6)]
    go_enter Tryz.func72,Tryz.ntmps72
    go_wp2_with (first
     |(go_at_call 69;go_loud ((with_reducible refine (HR.out _ Gr).mono ?_);rintro e w1 ⟨rfl,hb1⟩;obtain ⟨hc1,hf1,hk1,hz1⟩:=bcell3 hb1;(try simp only [World.size_alloc,World.size_drew] at hz1);have:w.heap.size<w1.heap.size:=(by omega);have:w.heap.size+1<w1.heap.size:=(by omega)))
     |(go_at_call 53;go_loud ((with_reducible refine (HC.out _ Gr).mono ?_);rintro e w2 ⟨rfl,hb2⟩;obtain ⟨hc2,hf2,hk2,hz2⟩:=bcell3 hb2;(try simp only [World.size_alloc,World.size_drew] at hz2);have:w.heap.size<w2.heap.size:=(by omega);have:w.heap.size+1<w2.heap.size:=(by omega)))
     |(go_at_call 135;go_loud ((with_reducible refine (HP.out _ Gr).mono ?_);rintro e w3 ⟨rfl,hb3⟩)))
    go_ret
    exact ⟨rfl,Gr⟩
   ·have hJ:¬(6:Int)<(P:Int):=by omega
    have hJd:decide ((6:Int)<(P:Int))=false:=by simpa using hJ
    rw [if_neg (by simpa using h6)]
    cases ra
    ·rw [if_neg (by simp)]
     go_enter Tryz.func72,Tryz.ntmps72
     go_wp2_with (first
      |(go_at_call 69;go_loud ((with_reducible refine (HR.out _ Gr).mono ?_);rintro e w1 ⟨rfl,hb1⟩;obtain ⟨hc1,hf1,hk1,hz1⟩:=bcell3 hb1;(try simp only [World.size_alloc,World.size_drew] at hz1);have:w.heap.size<w1.heap.size:=(by omega);have:w.heap.size+1<w1.heap.size:=(by omega)))
      |(go_at_call 53;go_loud ((with_reducible refine (HC.out _ Gr).mono ?_);rintro e w2 ⟨rfl,hb2⟩;obtain ⟨hc2,hf2,hk2,hz2⟩:=bcell3 hb2;(try simp only [World.size_alloc,World.size_drew] at hz2);have:w.heap.size<w2.heap.size:=(by omega);have:w.heap.size+1<w2.heap.size:=(by omega)))
      |(go_at_call 135;go_loud ((with_reducible refine (HP.out _ Gr).mono ?_);rintro e w3 ⟨rfl,hb3⟩;obtain ⟨hc3,hf3,hk3,hz3⟩:=bcell3 hb3;(try simp only [World.size_alloc,World.size_drew] at hz3);have:w.heap.size<w3.heap.size:=(by omega);have:w.heap.size+1<w3.heap.size:=(by omega)))
      |(go_at_call 136;go_loud ((with_reducible refine (HA.out _ Gr).mono ?_);rintro e w4 ⟨rfl,hb4⟩)))
     go_ret
     exact ⟨rfl,Gr⟩
    ·rw [if_pos rfl]
     cases rf
     all_goals
      go_enter Tryz.func72,Tryz.ntmps72
      go_wp2_with (first
       |(go_at_call 69;go_loud ((with_reducible refine (HR.out _ Gr).mono ?_);rintro e w1 ⟨rfl,hb1⟩;obtain ⟨hc1,hf1,hk1,hz1⟩:=bcell3 hb1;(try simp only [World.size_alloc,World.size_drew] at hz1);have:w.heap.size<w1.heap.size:=(by omega);have:w.heap.size+1<w1.heap.size:=(by omega)))
       |(go_at_call 53;go_loud ((with_reducible refine (HC.out _ Gr).mono ?_);rintro e w2 ⟨rfl,hb2⟩;obtain ⟨hc2,hf2,hk2,hz2⟩:=bcell3 hb2;(try simp only [World.size_alloc,World.size_drew] at hz2);have:w.heap.size<w2.heap.size:=(by omega);have:w.heap.size+1<w2.heap.size:=(by omega)))
       |(go_at_call 135;go_loud ((with_reducible refine (HP.out _ Gr).mono ?_);rintro e w3 ⟨rfl,hb3⟩;obtain ⟨hc3,hf3,hk3,hz3⟩:=bcell3 hb3;(try simp only [World.size_alloc,World.size_drew] at hz3);have:w.heap.size<w3.heap.size:=(by omega);have:w.heap.size+1<w3.heap.size:=(by omega)))
       |(go_at_call 136;go_loud ((with_reducible refine (HA.out _ Gr).mono ?_);rintro e w4 ⟨rfl,hb4⟩;obtain ⟨hc4,hf4,hk4,hz4⟩:=bcell3 hb4;(try simp only [World.size_alloc,World.size_drew] at hz4);have:w.heap.size<w4.heap.size:=(by omega);have:w.heap.size+1<w4.heap.size:=(by omega)))
       |(go_at_call 137;go_loud ((with_reducible refine (HF.out _ Gr).mono ?_);rintro e w5 ⟨rfl,hb5⟩)))
      go_ret
      exact ⟨rfl,Gr⟩
set_option maxHeartbeats 1000000 in
theorem place15_any (vl:Value) (l:List ByteArray) (x:ByteArray) (w:World) (hl:StrsSl w vl l) (tl:l.length≤1000):
  Calls Tryz.prog 132 #[vl,.string x] w fun e w'=>e= .returned (.int .i64 (Lib.idxOfS l x))∧w=w':=by
 obtain ⟨J,hJ,hpre,hat,hI⟩:∃J,J≤l.length∧(∀i (hi:i<l.length),i<J→(l[i].toList==x.toList)=false)∧(∀hj:J<l.length,(l[J].toList==x.toList)=true)∧Lib.idxOfS l x=(if J<l.length then (J:Int) else -1):=by
  rcases idx_is l x with ⟨h,h2⟩|⟨k,hk,h,_,h2,h3⟩
  ·exact ⟨l.length,Nat.le_refl _,fun i hi _=>h2 i hi,fun h=>absurd h (Nat.lt_irrefl _),by rw [h];simp⟩
  ·exact ⟨k,by omega,fun i _ hi=>h3 i hi,fun _=>h2,by rw [h];simp [hk]⟩
 rw [hI]
 clear hI
 have HPRE:=hid hpre;have HAT:=hid hat;have HV:=hid hl
 obtain ⟨al,cl,rfl,_,hcl,_⟩:=SlAt.shape hl
 clear hpre hat hl
 obtain ⟨N,hN⟩:∃N,l.length=N:=⟨_,rfl⟩
 have HN:=hid hN
 rw [hN] at hJ tl ⊢
 simp only [hN] at HV
 clear hN
 go_enter Tryz.func132,Tryz.ntmps132
 go_wp2
 go_loop [5] (fun i=>∃k:Nat,k≤J∧i= .int .i64 k) (fun i=>N-(intOf i).toNat)
 case atStart=>exact ⟨0,Nat.zero_le _,rfl⟩
 case round=>
  obtain ⟨k,hk,rfl⟩:=hrel
  by_cases hkN:k<N
  ·have hlen:k<l.length:=by rw [HN.out];exact hkN
   have hp:=SlAt.parts HV.out
   obtain ⟨b,off,rfl,hcell⟩:=hp.2.2.2.2 (by simp;omega)
   have ck:=hcell k (.string l[k]) (by rw [List.getElem?_map,List.getElem?_eq_getElem hlen];rfl)
   clear hcell hp
   by_cases hkJ:k<J
   ·have hq:=HPRE.out k hlen hkJ
    generalize l[k]=s at*
    go_wp2
    go_round
    case rel=>exact ⟨k+1,hkJ,by go_num⟩
    case measure=>simp [intOf];omega
   ·obtain rfl:k=J:=by omega
    have hq:=HAT.out hlen
    generalize l[k]=s at*
    have H1:Hid ((if k<N then (k:Int) else -1)=(k:Int)):=if_pos hkN
    clear hcl
    go_wp2
    go_ret
    exact ⟨by first|rfl|rw [H1.out],rfl⟩
  ·have H1:Hid ((if J<N then (J:Int) else -1)= -1):=if_neg (by omega)
   go_wp2
   go_ret
   exact ⟨by first|rfl|rw [H1.out],rfl⟩
set_option maxHeartbeats 1000000 in
theorem ordered15_any (v u:Value) (l all:List ByteArray) (w:World) (hv:StrsSl w v l) (hu:StrsSl w u all) (hl:l.length≤1000000) (ha:all.length≤1000):
  Calls Tryz.prog 133 #[v,u] w fun e w'=>e= .returned (.bool (inOrdB l all))∧w=w':=by
 have HX:=hid (fun x=>place15_any u all x w hu ha)
 obtain ⟨ao,cap,rfl,h1,h2,h3,hA⟩:=str_parts hv
 obtain ⟨bo,bcap,rfl,_,_,_⟩:=SlAt.shape hu
 have HA:=hid hA
 have HY:=hid (@inOrdB_yes l all);have HN:=hid (fun k hk=> @inOrdB_no l all k hk);have HS:=hid (fun k hk=> @lastAt_succ l all k hk)
 obtain ⟨L,hL⟩:∃L,l.length=L:=⟨_,rfl⟩
 have HL:=hid hL
 generalize all.length=m at*
 rw [hL] at h1 hl ⊢
 clear hA hv hu hL h3
 unfold maxLen at h2
 generalize inOrdB l all=r at*
 go_enter Tryz.func133,Tryz.ntmps133
 go_wp2
 go_loopw [5,6,7] (fun lv iv _ wr=>Hid (wr=w)∧∃k:Nat,k≤L∧iv= .int .i64 (k:Int)∧lv= .int .i64 (lastAt all l k)∧∀i,i<k→lastAt all l i<lastAt all l (i+1)) (fun _ iv _ _=>L-(intOf iv).toNat)
 case atStart=>exact ⟨hid rfl,0,Nat.zero_le _,rfl,rfl,fun i h=>absurd h (Nat.not_lt_zero i)⟩
 case round=>
  obtain ⟨hw,k,hk,rfl,rfl,hz⟩:=hrel
  obtain rfl:=hw.out
  clear hw
  by_cases hkL:k<L
  ·have hlen:k<l.length:=by rw [HL.out];exact hkL
   obtain ⟨b,off,rfl,hc⟩:=HA.out (by omega)
   have c0:=hc k hlen
   have hs:=HS.out k hlen
   have HX2:=hid (HX.out l[k])
   rw [←hs] at HX2
   have d1:decide (k<L)=true:=by simpa using hkL
   have q1:(0:Int)≤(k:Int):=by omega
   have q2:(k:Int)<(L:Int):=by omega
   have HZ:=hid hz
   have HS2:=hid hs
   obtain ⟨p,hp⟩:∃p,lastAt all l k=p:=⟨_,rfl⟩
   obtain ⟨t,ht⟩:∃t,lastAt all l (k+1)=t:=⟨_,rfl⟩
   have HPT:=hid (And.intro hp ht)
   rw [ht] at HX2
   rw [hp]
   generalize l[k]=s at*
   clear hc hz hs hp ht
   by_cases hpt:t≤p
   ·have d2:decide (t≤p)=true:=by simpa using hpt
    have hr:r=false:=HN.out k (by rw [HL.out];exact hkL) (by rw [HPT.out.1,HPT.out.2];omega)
    subst hr
    go_wp2_with (go_at_call 132;go_loud ((with_reducible refine HX2.out.mono ?_);rintro e w1 ⟨rfl,rfl⟩))
    go_ret
    exact ⟨rfl,rfl⟩
   ·have d2:decide (t≤p)=false:=by simpa using hpt
    go_wp2_with (go_at_call 132;go_loud ((with_reducible refine HX2.out.mono ?_);rintro e w1 ⟨rfl,rfl⟩))
    go_roundw
    case rel=>
     refine ⟨by first|exact hid rfl|exact hid trivial|simp [Hid],k+1,hkL,by go_num,by rw [HPT.out.2],fun i hi=> ?_⟩
     by_cases h:i<k
     ·exact HZ.out i h
     ·obtain rfl:i=k:=by omega
      rw [HPT.out.1,HPT.out.2];omega
    case measure=>simp [intOf];omega
  ·have d1:decide (k<L)=false:=by simpa using hkL
   have hr:r=true:=HY.out (fun i hi=>hz i (by rw [HL.out] at hi;omega))
   subst hr
   clear hz
   go_wp2
   go_ret
   exact ⟨rfl,rfl⟩
end Go.Proofs.YtejleplhmkmegaaGreatDoor
