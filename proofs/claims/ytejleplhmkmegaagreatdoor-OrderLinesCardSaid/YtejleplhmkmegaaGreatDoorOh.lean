/- Texts joined: OrI, OrJ, OrK, OpenS, OrL, OrM, OrN, OrV, Rows2, OrW, Rows3, OsU, OsV, OtA, OtB, OtC, OtD. -/
import Derived.Test.YtejleplhmkmegaaGreatDoorOg
import Derived.Test.YtejleplhmkmegaaGreatDoorOa
import Derived.SliceStrings
import Derived.Deep.Slices
import Derived.Deep.Fields
import Derived.Deep.Strs
import Derived.Laws.Rows
import Derived.Laws.CopyRow
import Derived.Test.YtejleplhmkmegaaGreatDoorOf
import Derived.Test.YtejleplhmkmegaaGreatDoorOd
set_option linter.unusedVariables false
set_option linter.unusedSimpArgs false
namespace Go.Proofs.YtejleplhmkmegaaGreatDoor
set_option maxRecDepth 100000
open Go.ChangeShapes Go.WideShapes Go.ChangeAt Go.RowKit Go.Fl
def countN:Nat→FilD→Nat
 |0,_=>0
 |d+1,.mk _ _ _ _ _ l=>1+(l.map (countN d)).sum
theorem count_cut:∀(d e:Nat) (f:FilD),countN d (cutF e f)≤11^d
 |0,e,f=>by simp [countN]
 |d+1,e,.mk k n ws fr till l=>by
  rw [cutF_eq]
  unfold countN
  have h1:(cutL e l).length≤10:=by
   cases e with
   |zero=>simp [cutL]
   |succ e=>simp [cutL];omega
  have h2:∀x∈(cutL e l).map (countN d),x≤11^d:=by
   intro x hx
   obtain ⟨y,hy,rfl⟩:=List.mem_map.1 hx
   cases e with
   |zero=>simp [cutL] at hy
   |succ e=>
    obtain ⟨z,_,rfl⟩:=List.mem_map.1 hy
    exact count_cut d e z
  have h3:∀(L:List Nat) (b:Nat),(∀x∈L,x≤b)→L.sum≤L.length*b:=by
   intro L b
   induction L with
   |nil=>simp
   |cons x L ih=>
    intro h
    have:=h x (by simp)
    have:=ih fun y hy=>h y (by simp [hy])
    rw [List.sum_cons,List.length_cons,Nat.succ_mul]
    omega
  have h4:=h3 _ _ h2
  rw [List.length_map] at h4
  have h5:(cutL e l).length*11^d≤10*11^d:=Nat.mul_le_mul_right _ h1
  have h6:0<11^d:=Nat.pow_pos (by decide)
  rw [Nat.pow_succ]
  omega
theorem sum_take {l:List Nat} {k:Nat} (h:k<l.length):(l.take (k+1)).sum=(l.take k).sum+l[k]:=by
 rw [List.take_succ_eq_append_getElem h,List.sum_append]
 simp
theorem sum_mono (l:List Nat) (k:Nat):(l.take k).sum≤l.sum:=by
 have:=List.take_append_drop k l
 have h2:=congrArg List.sum this
 rw [List.sum_append] at h2
 omega
def CountSpec (D:Nat):Prop:=∀(S:Nat→Prop) (f:FilD) (cs:List Value) (w:World),FilS S w D cs f→countN D f≤1000000000000→Calls Tryz.prog 53 #[.agg cs.toArray] w fun e w'=>e= .returned (.int .i64 (countN D f:Nat))∧Below w.heap.size w w'
set_option maxHeartbeats 4000000 in
theorem count_step (D:Nat) (ih:CountSpec D):CountSpec (D+1):=by
 intro S f cs w hf hc
 obtain ⟨k,n,ws,fr,till,l⟩:=f
 unfold FilS at hf
 obtain ⟨vw,vl,rows,rfl,hn,hw,hws,hrl,hr6,hl,hrec⟩:=hf
 obtain ⟨aw,cw,rfl,_⟩:=SlAt.shape hw.sl
 obtain ⟨al,cl,rfl,l1,l2,l3⟩:=SlAt.shape hl.sl
 have HL:=hid hl.sl;have HRL:=hid hrl;have HR6:=hid hr6;have HREC:=hid hrec
 unfold countN at hc ⊢
 obtain ⟨C,hC⟩:∃C,l.map (countN D)=C:=⟨_,rfl⟩
 have HC:=hid hC
 rw [hC] at hc ⊢
 have HLC:Hid (C.length=l.length):=by unfold Hid;rw [←hC,List.length_map]
 have HSM:=hid (fun k=>sum_mono C k)
 unfold maxLen at l2
 generalize ws.length=m1 at*
 obtain ⟨L,hL⟩:∃L,l.length=L:=⟨_,rfl⟩
 have HLL:=hid hL
 rw [hL] at l1 ⊢
 have HCC:=hid hc
 clear hw hl hws hrl hr6 hrec hC hL hn hc
 go_enter Tryz.func53,Tryz.ntmps53
 go_wp2
 go_loopw [3,4] (fun s i wr=>∃j:Nat,j≤L∧i= .int .i64 (j:Nat)∧s= .int .i64 ((1+(C.take j).sum:Nat):Int)∧Below w.heap.size w wr∧wr.heap[w.heap.size]? =some (outC k n (.slice aw m1 cw) fr till (.slice al L cl))) (fun _ i _=>L-(intOf i).toNat)
 case atStart=>exact ⟨0,Nat.zero_le _,rfl,rfl,Gr,heap_at rfl⟩
 case round=>
  obtain ⟨j,hj,rfl,rfl,hbel,y0⟩:=hrel
  have g1:(0:Int)≤(j:Int):=Int.natCast_nonneg _
  have u2:wr.cell? ⟨w.heap.size,5,none⟩=some (.slice al L cl):=cell_blk y0 rfl
  have zb0:w.heap.size<wr.heap.size:=blk_lt y0
  have hs1:=HSM.out j
  have hs2:=HCC.out
  obtain ⟨s,hs⟩:∃s,(C.take j).sum=s:=⟨_,rfl⟩
  have HS:=hid hs
  rw [hs] at hs1 ⊢
  by_cases hjL:j<L
  ·have hjl:j<l.length:=by have:=HLL.out;omega
   have hjC:j<C.length:=by rw [HLC.out];exact hjl
   have hI:(j:Int)<(L:Int):=by omega
   obtain ⟨bl,ol,rfl,hcell⟩:=(SlAt.parts HL.out).2.2.2.2 (by rw [(SlAt.len HL.out)];omega)
   have hjr:j<rows.length:=by rw [HRL.out];exact hjl
   have hfr:=HREC.out j hjl rows[j] (List.getElem?_eq_getElem hjr)
   have hcr:∀i u,i<6→rows[j][i]? =some u→w.cell? ⟨bl,ol+(j*6+i),none⟩=some u:=fun i u h6 hu=>hcell _ _ ((flatten_at HR6.out (List.getElem?_eq_getElem hjr) h6).trans hu)
   have hcj:C[j]=countN D l[j]:=by
    have:=HC.out
    subst this
    simp
   have hst:=sum_take hjC
   have hsm:=HSM.out (j+1)
   have HI:=hid (fun W (h:Below w.heap.size w W) (hb:countN D l[j]≤1000000000000)=>ih S l[j] rows[j] W (hfr.below h) hb)
   rw [←hcj] at HI
   have HI2:=hid (fun W h=>HI.out W h (by rw [hst] at hsm;omega))
   clear HI
   rw [hst,hs] at hsm
   have HST:=hid (hst.trans (by rw [hs]))
   generalize C[j]=c at*
   generalize rows[j]=row at*
   generalize l[j]=fj at*
   clear hst hcj
   cases D with
   |zero=>simp [FilS] at hfr
   |succ D=>
   obtain ⟨k2,n2,ws2,fr2,till2,l2'⟩:=fj
   unfold FilS at hfr
   obtain ⟨vw2,vl2,rows2,rfl,t1,hw2,t2,t3,t4,hl2,t5⟩:=hfr
   clear t1 t2 t3 t4 t5
   obtain ⟨aw2,cw2,rfl,_⟩:=SlAt.shape hw2.sl
   obtain ⟨al2,cl2,rfl,_⟩:=SlAt.shape hl2.sl
   have b0:=cell_step (hcr 0 _ (by decide) rfl) hbel;have b1:=cell_step (hcr 1 _ (by decide) rfl) hbel;have b2:=cell_step (hcr 2 _ (by decide) rfl) hbel;have b3:=cell_step (hcr 3 _ (by decide) rfl) hbel;have b4:=cell_step (hcr 4 _ (by decide) rfl) hbel;have b5:=cell_step (hcr 5 _ (by decide) rfl) hbel
   rw [Nat.add_zero] at b0
   rw [←Nat.add_assoc] at b1 b2 b3 b4 b5
   have HB:=hid hbel;have HY:=hid y0
   clear hcell hcr hw2 hl2 hbel y0
   generalize ws2.length=m2 at*
   generalize l2'.length=m3 at*
   have e1:(0:Int)≤((1+s:Nat):Int)+(c:Int):=by omega
   have e2:((1+s:Nat):Int)+(c:Int)≤9223372036854775807:=by omega
   obtain ⟨x,hx⟩:∃x:Int,((1+s:Nat):Int)=x:=⟨_,rfl⟩
   have HX:=hid hx
   rw [hx] at e1 e2 ⊢
   clear hx
   go_wp2_with (go_at_call 53;((with_reducible refine (HI2.out _ HB.out).mono ?_);rintro e w1 ⟨rfl,hb1⟩))
   go_roundw
   case rel=>
    refine ⟨j+1,hjL,by go_num,?_,by have:=HB.out;exact Gr,(hb1.block _ (by omega)).trans HY.out⟩
    have h1:=HX.out
    rw [HST.out]
    congr 1
    omega
   case measure=>simp [intOf];omega
  ·obtain rfl:j=L:=by omega
   have hfull:s=C.sum:=by rw [←HS.out,List.take_of_length_le (by rw [HLC.out,HLL.out];exact Nat.le_refl _)]
   have HF:=hid hfull
   have HB:=hid hbel
   clear hbel hs1 hs2 hfull hs HS
   go_wp2
   go_ret
   exact ⟨by rw [←HF.out];rfl,HB.out⟩
theorem count_any:∀D,CountSpec D
 |0=>fun S f cs w hf=>by simp [FilS] at hf
 |D+1=>count_step D (count_any D)
def noL:FilD→FilD| .mk k n ws fr till _=> .mk k n ws fr till []
def fewF (f:FilD):FilD:=if 100<countN 8 (cutF 7 f) then noL (cutF 7 f) else cutF 7 f
theorem FilS.noL {S:Nat→Prop} {w:World} {d:Nat} {k:Int} {n:ByteArray} {vw vl:Value} {fr till:Int} {f:FilD} (h:FilS S w (d+1) [.int .i64 k,.string n,vw,.int .i64 fr,.int .i64 till,vl] f):FilS S w (d+1) [.int .i64 k,.string n,vw,.int .i64 fr,.int .i64 till,.slice none 0 0] (Go.Proofs.YtejleplhmkmegaaGreatDoor.noL f):=by
 obtain ⟨k',n',ws,fr',till',l⟩:=f
 unfold Go.Proofs.YtejleplhmkmegaaGreatDoor.noL
 unfold FilS at h ⊢
 obtain ⟨vw',vl',rows,h1,h2,h3,h4,_⟩:=h
 simp only [List.cons.injEq,Value.int.injEq,Value.string.injEq,true_and,and_true] at h1
 obtain ⟨rfl,rfl,rfl,rfl,rfl,rfl⟩:=h1
 exact ⟨_,_,[],rfl,h2,h3,h4,rfl,by simp,⟨rfl,none,0,rfl,Nat.le_refl _,by simp,fun _=>rfl,fun h=>by simp at h⟩,fun i hi=>by simp at hi⟩
theorem FilS.six {S:Nat→Prop} {w:World} {d:Nat} {cs:List Value} {f:FilD} (h:FilS S w d cs f):∃(k:Int) (n:ByteArray) (aw:Option Addr) (lw cw:Nat) (fr till:Int) (al:Option Addr) (ll cl:Nat),cs=[.int .i64 k,.string n,.slice aw lw cw,.int .i64 fr,.int .i64 till,.slice al ll cl]:=by
 cases d with
 |zero=>simp [FilS] at h
 |succ d=>
 obtain ⟨k',n',ws,fr',till',l⟩:=f
 unfold FilS at h
 obtain ⟨vw',vl',rows,h1,h2,h3,h4,_,_,h5,_⟩:=h
 obtain ⟨aw,cw,rfl,_⟩:=SlAt.shape h3.sl
 obtain ⟨al,cl,rfl,_⟩:=SlAt.shape h5.sl
 exact ⟨_,_,_,_,_,_,_,_,_,_,h1⟩
set_option maxHeartbeats 4000000 in
theorem few14_any (S:Nat→Prop) (D:Nat) (f:FilD) (cs:List Value) (w:World) (hf:FilS S w D cs f):
  Calls Tryz.prog 23 #[.agg cs.toArray] w fun e w'=>∃cs',e= .returned (.agg cs'.toArray)∧FilS (fun b=>w.heap.size≤b∧b<w'.heap.size) w' 8 cs' (fewF f)∧Below w.heap.size w w':=by
 have HC:=hid (fun W (h:Below w.heap.size w W)=>cut_any 7 (by decide) S D f cs W (hf.below h))
 have h8:((7:Nat):Int)+1=8:=rfl
 rw [h8] at HC
 have HN:=hid (fun (S:Nat→Prop) (cs:List Value) (W:World) (h:FilS S W 8 cs (cutF 7 f))=>count_any 8 S _ cs W h (Nat.le_trans (count_cut 8 7 f) (by decide)))
 obtain ⟨k,n,aw,lw,cw,fr,till,al,ll,cl,rfl⟩:=hf.six
 clear hf h8
 have hcc:countN 8 (cutF 7 f)≤1000000000000:=Nat.le_trans (count_cut 8 7 f) (by decide)
 obtain ⟨c,hc⟩:∃c,countN 8 (cutF 7 f)=c:=⟨_,rfl⟩
 have HFW:Hid (fewF f=if 100<c then noL (cutF 7 f) else cutF 7 f):=by unfold Hid fewF;rw [hc]
 rw [hc] at HN hcc
 clear hc
 go_enter Tryz.func23,Tryz.ntmps23
 go_upto_region 2 with (go_at_call 52;go_loud ((with_reducible refine (HC.out _ Gr).mono ?_);rintro e w1 ⟨cs',rfl,hfc,hb1⟩;obtain ⟨k2,n2,aw2,lw2,cw2,fr2,till2,al2,ll2,cl2,rfl⟩:=hfc.six;have y0:w1.heap[w.heap.size]? =some (outC k n (.slice aw lw cw) fr till (.slice al ll cl)):=(hb1.block w.heap.size (by simp;omega)).trans ((heap_past (by simp)).trans (heap_at rfl));have y1:w1.heap[w.heap.size+1]? =some (outC 0 { data:= #[]} (.slice none 0 0) 0 0 (.slice none 0 0)):=(hb1.block (w.heap.size+1) (by simp)).trans (heap_at (by simp));have e0:=cell_blk (i:=0) y0 rfl;have e1:=cell_blk (i:=1) y0 rfl;have e2:=cell_blk (i:=2) y0 rfl;have e3:=cell_blk (i:=3) y0 rfl;have e4:=cell_blk (i:=4) y0 rfl;have e5:=cell_blk (i:=5) y0 rfl;have f0:=free_blk (i:=0) y0;have f1:=free_blk (i:=1) y0;have f2:=free_blk (i:=2) y0;have f3:=free_blk (i:=3) y0;have f4:=free_blk (i:=4) y0;have f5:=free_blk (i:=5) y0))
 obtain ⟨X,hX⟩:∃X,((((((w1.setCell ⟨w.heap.size,0,none⟩ (.int .i64 k2)).setCell ⟨w.heap.size,1,none⟩ (.string n2)).setCell ⟨w.heap.size,2,none⟩ (.slice aw2 lw2 cw2)).setCell ⟨w.heap.size,3,none⟩ (.int .i64 fr2)).setCell ⟨w.heap.size,4,none⟩ (.int .i64 till2)).setCell ⟨w.heap.size,5,none⟩ (.slice al2 ll2 cl2))=X:=⟨_,rfl⟩
 have x0:X.heap[w.heap.size]? =some (outC k2 n2 (.slice aw2 lw2 cw2) fr2 till2 (.slice al2 ll2 cl2)):=by
  rw [←hX]
  have:=blk_set (o:=5) (v:= .slice al2 ll2 cl2) (blk_set (o:=4) (v:= .int .i64 till2) (blk_set (o:=3) (v:= .int .i64 fr2) (blk_set (o:=2) (v:= .slice aw2 lw2 cw2) (blk_set (o:=1) (v:= .string n2) (blk_set (o:=0) (v:= .int .i64 k2) y0)))))
  simpa using this
 have hXo:∀b,b≠w.heap.size→X.heap[b]? =w1.heap[b]? :=fun b hb=>by
  rw [←hX,heap_set_other hb,heap_set_other hb,heap_set_other hb,heap_set_other hb,heap_set_other hb,heap_set_other hb]
 have x1:=(hXo (w.heap.size+1) (by omega)).trans y1
 have hzX:X.heap.size=w1.heap.size:=by rw [←hX];simp
 have hz1:=hb1.size
 simp only [World.size_alloc] at hz1
 have hBX:Below w.heap.size w X:=by
  rw [←hX]
  repeat (refine Below.setCell ?_ (by dsimp only;omega) _)
  exact Gr
 rw [hX]
 clear hX e0 e1 e2 e3 e4 e5 f0 f1 f2 f3 f4 f5 y0 y1
 have hfX:FilS (fun b=>w.heap.size+1+1≤b∧b<X.heap.size) X 8 [.int .i64 k2,.string n2,.slice aw2 lw2 cw2,.int .i64 fr2,.int .i64 till2,.slice al2 ll2 cl2] (cutF 7 f):=by
  refine hfc.keep (fun b hb=> ?_) (fun b hb _=>hXo b ?_)
  ·have:=hb.1;have:=hb.2;simp only [World.size_alloc] at*;omega
  ·have:=hb.1;simp only [World.size_alloc] at this;omega
 have HX:=hid hfX
 have HNX:=hid (HN.out _ _ X hfX)
 clear hfc hfX HN hXo
 have e0:=cell_blk (i:=0) x0 rfl;have e1:=cell_blk (i:=1) x0 rfl;have e2:=cell_blk (i:=2) x0 rfl;have e3:=cell_blk (i:=3) x0 rfl;have e4:=cell_blk (i:=4) x0 rfl;have e5:=cell_blk (i:=5) x0 rfl
 have HY:=hid (⟨x0,x1,hBX⟩:_∧_∧_)
 clear x0 x1 hBX
 have hbz:w.heap.size+1<X.heap.size:=by omega
 by_cases hgt:100<c
 ·have hI:(100:Int)<(c:Int):=by omega
  have HG:=hid hgt
  go_wp2_with (go_at_call 53;go_loud ((with_reducible refine (HNX.out).mono ?_);rintro e w2 ⟨rfl,hb2⟩;have x0:=(hb2.block _ (by omega)).trans HY.out.1;have x1:=(hb2.block _ (by omega)).trans HY.out.2.1;have zb2:=hb2.size;have a0:=cell_blk (i:=0) x0 rfl;have a1:=cell_blk (i:=1) x0 rfl;have a2:=cell_blk (i:=2) x0 rfl;have a3:=cell_blk (i:=3) x0 rfl;have a4:=cell_blk (i:=4) x0 rfl;have a5:=cell_blk (i:=5) x0 rfl;have f5:=free_blk (i:=5) x0;have r0:=cell_blk (i:=0) x1 rfl;have r1:=cell_blk (i:=1) x1 rfl;have r2:=cell_blk (i:=2) x1 rfl;have r3:=cell_blk (i:=3) x1 rfl;have r4:=cell_blk (i:=4) x1 rfl;have r5:=cell_blk (i:=5) x1 rfl;have h0:=free_blk (i:=0) x1;have h1:=free_blk (i:=1) x1;have h2:=free_blk (i:=2) x1;have h3:=free_blk (i:=3) x1;have h4:=free_blk (i:=4) x1;have h5:=free_blk (i:=5) x1))
  ((show bodyPost _ _ _ _ _ _);refine bodyPost_ret (by simp only [results,Tryz.results23];go_simp;try rfl) rfl ?_)
  refine ⟨_,rfl,?_,?_⟩
  ·rw [HFW.out,if_pos HG.out]
   refine (FilS.noL HX.out).keep (fun b hb=> ?_) (fun b hb _=> ?_)
   ·have:=hb.1;have:=hb.2;simp only [World.size_setCell];omega
   ·have:=hb.1
    repeat rw [heap_set_other (by omega)]
    exact hb2.block b hb.2
  ·repeat (refine Below.setCell ?_ (by dsimp only;omega) _)
   exact HY.out.2.2.trans (hb2.mono (by omega))
 ·have hI:¬(100:Int)<(c:Int):=by omega
  have HG:=hid hgt
  go_wp2_with (go_at_call 53;go_loud ((with_reducible refine (HNX.out).mono ?_);rintro e w2 ⟨rfl,hb2⟩;have x0:=(hb2.block _ (by omega)).trans HY.out.1;have x1:=(hb2.block _ (by omega)).trans HY.out.2.1;have zb2:=hb2.size;have a0:=cell_blk (i:=0) x0 rfl;have a1:=cell_blk (i:=1) x0 rfl;have a2:=cell_blk (i:=2) x0 rfl;have a3:=cell_blk (i:=3) x0 rfl;have a4:=cell_blk (i:=4) x0 rfl;have a5:=cell_blk (i:=5) x0 rfl;have f5:=free_blk (i:=5) x0;have r0:=cell_blk (i:=0) x1 rfl;have r1:=cell_blk (i:=1) x1 rfl;have r2:=cell_blk (i:=2) x1 rfl;have r3:=cell_blk (i:=3) x1 rfl;have r4:=cell_blk (i:=4) x1 rfl;have r5:=cell_blk (i:=5) x1 rfl;have h0:=free_blk (i:=0) x1;have h1:=free_blk (i:=1) x1;have h2:=free_blk (i:=2) x1;have h3:=free_blk (i:=3) x1;have h4:=free_blk (i:=4) x1;have h5:=free_blk (i:=5) x1))
  ((show bodyPost _ _ _ _ _ _);refine bodyPost_ret (by simp only [results,Tryz.results23];go_simp;try rfl) rfl ?_)
  refine ⟨_,rfl,?_,?_⟩
  ·rw [HFW.out,if_neg HG.out]
   refine (HX.out).keep (fun b hb=> ?_) (fun b hb _=> ?_)
   ·have:=hb.1;have:=hb.2;simp only [World.size_setCell];omega
   ·have:=hb.1
    repeat rw [heap_set_other (by omega)]
    exact hb2.block b hb.2
  ·repeat (refine Below.setCell ?_ (by dsimp only;omega) _)
   exact HY.out.2.2.trans (hb2.mono (by omega))
structure AggD where
 kind:Int
 metric:ByteArray
def AggD.cells (a:AggD):List Value:=[.int .i64 a.kind,.string a.metric]
theorem AggD.cells_len (v:AggD):v.cells.length=2:=rfl
def AggsSl (w:World) (v:Value) (l:List AggD):Prop:=SlAt w v l.length 2 (l.flatMap AggD.cells)
structure CondD where
 pos:Int
 op:Int
 n:Int
def CondD.cells (a:CondD):List Value:=[.int .i64 a.pos,.int .i64 a.op,.int .i64 a.n]
theorem CondD.cells_len (v:CondD):v.cells.length=3:=rfl
def CondsSl (w:World) (v:Value) (l:List CondD):Prop:=SlAt w v l.length 3 (l.flatMap CondD.cells)
def SetsSl (w:World) (v:Value) (l:List (List ByteArray)):Prop:=∃vs:List Value,vs.length=l.length∧SlAt w v l.length 1 vs∧∀i (hi:i<l.length) x,vs[i]? =some x→StrsSl w x l[i]
theorem KeysSl.take {w:World} {an:Option Addr} {cn:Nat} {xs:List KeyD} (h:KeysSl w (.slice an xs.length cn) xs) (k:Nat):KeysSl w (.slice an (min xs.length k) cn) (xs.take k):=by
 have h2:=SlAt.take h (k:=min xs.length k) (Nat.min_le_left _ _)
 have e:(xs.take k).length=min xs.length k:=by rw [List.length_take,Nat.min_comm]
 have e2:xs.take (min xs.length k)=xs.take k:=by
  by_cases hk:k≤xs.length
  ·rw [Nat.min_eq_right hk]
  ·rw [Nat.min_eq_left (by omega),List.take_length,List.take_of_length_le (by omega)]
 unfold KeysSl
 rw [flat_take 3 KeyD.cells KeyD.cells_len,e2] at h2
 rw [e]
 exact h2
theorem CondsSl.take {w:World} {an:Option Addr} {cn:Nat} {xs:List CondD} (h:CondsSl w (.slice an xs.length cn) xs) (k:Nat):CondsSl w (.slice an (min xs.length k) cn) (xs.take k):=by
 have h2:=SlAt.take h (k:=min xs.length k) (Nat.min_le_left _ _)
 have e:(xs.take k).length=min xs.length k:=by rw [List.length_take,Nat.min_comm]
 have e2:xs.take (min xs.length k)=xs.take k:=by
  by_cases hk:k≤xs.length
  ·rw [Nat.min_eq_right hk]
  ·rw [Nat.min_eq_left (by omega),List.take_length,List.take_of_length_le (by omega)]
 unfold CondsSl
 rw [flat_take 3 CondD.cells CondD.cells_len,e2] at h2
 rw [e]
 exact h2
theorem info_agg:(Tryz.prog.info? 71).map (fun i=>(i.zero,i.size,i.bytes))=some (some (.agg #[.int .i64 0,.string { data:= #[]}]),2,24):=by kernel_rfl
structure QryD where
 aggs:List AggD
 by_:List ByteArray
 mode:Int
 sets:List (List ByteArray)
 every:Int
 wher:FilD
 having:List CondD
 order:List KeyD
 limit:Int
structure QryIs (w:World) (q:QryV) (d:QryD):Prop where
 aggs:AggsSl w (.slice q.aa q.an q.ac) d.aggs
 by_:StrsSl w (.slice q.ba q.bn q.bc) d.by_
 mode:q.mode=d.mode
 sets:SetsSl w (.slice q.sa q.sn q.sc) d.sets
 every:q.every=d.every
 wher:∃D,FilS (fun _=>True) w D [.int .i64 q.kind,.string q.name,.slice q.wa q.wn q.wc,.int .i64 q.fr,.int .i64 q.till,.slice q.la q.ln q.lc] d.wher
 having:CondsSl w (.slice q.ha q.hn q.hc) d.having
 order:KeysSl w (.slice q.oa q.on q.oc) d.order
 limit:q.limit=d.limit
open Go.Joins Go.Deep
section
variable {H:Type} {enc:TypeId×Value→H} {W:World} {base:Nat}
theorem open_sl {t e:TypeId} (n:Nat) (ht:Tryz.prog.underlying t=some (.slice e)) (hC:Tryz.prog.cellsOf e=n) (h0:0<n) {v:Value} {fuel:Nat} {x:DataW H×List MemPlace} (h:DataW.trod enc Tryz.prog W 0 (fun _=>true) true fuel t [v]=some x):
  ∃(ao:Option Addr) (len cap:Nat),v= .slice ao len cap∧len≤cap∧cap≤maxLen∧(ao=none→cap=0)∧
   (0<len→∃b off,ao=some ⟨b,off,none⟩∧∀i,i<len→∃(cs:List Value) (k:Nat) (y:DataW H×List MemPlace),cs.length=n∧(∀j u,cs[j]? =some u→W.cell? ⟨b,off+(i*n+j),none⟩=some u)∧DataW.trod enc Tryz.prog W 0 (fun _=>true) true k e cs=some y):=by
 rcases open_slice ht h with ⟨hcs,_⟩|⟨a,len,cap,m,k,D,Pl,hcs,_,hl,hm,hmm,_,hi⟩
 ·simp at hcs
  exact ⟨none,0,0,hcs,Nat.le_refl _,by simp,fun _=>rfl,fun h=>absurd h (by omega)⟩
 ·simp at hcs
  simp only [if_true] at hmm
  refine ⟨some a,len,cap,hcs,hl,hm,(fun h=>by cases h),fun hlen=> ?_⟩
  have key:∀i,i<len→∃(cs:List Value) (y:DataW H×List MemPlace),cs.length=n∧(∀j u,cs[j]? =some u→W.cell? ((a.add (i*n)).add j)=some u)∧DataW.trod enc Tryz.prog W 0 (fun _=>true) true k e cs=some y:=fun i hi'=>by
   obtain ⟨cs,hc,ht'⟩:=hi i (by omega)
   rw [hC] at hc
   obtain ⟨_,hcl,hat⟩:=World.cells?_some hc
   exact ⟨cs,_,hcl,fun j u hj=>by rw [hat j (by have:=(List.getElem?_eq_some_iff.1 hj).1;omega)];exact hj,ht'⟩
  obtain ⟨b,off,s⟩:=a
  obtain ⟨cs0,_,hl0,hc0,_⟩:=key 0 hlen
  have hs:s=none:=by
   have:=hc0 0 cs0[0] (List.getElem?_eq_getElem (by omega))
   have:=spot_none this
   simpa [Addr.add] using this
  subst hs
  refine ⟨b,off,rfl,fun i hi'=> ?_⟩
  obtain ⟨cs,y,h1,h2,h3⟩:=key i hi'
  refine ⟨cs,k,y,h1,fun j u hj=> ?_,h3⟩
  have h4:=h2 j u hj
  have e1:((⟨b,off,none⟩:Addr).add (i*n)).add j=⟨b,off+(i*n+j),none⟩:=by
   have ea:∀o m:Nat,(⟨b,o,none⟩:Addr).add m=⟨b,o+m,none⟩:=fun o m=>by unfold Addr.add;split<;>simp_all
   rw [ea,ea,Nat.add_assoc]
  rw [e1] at h4
  exact h4
theorem sl_of {α:Type} {n len:Nat} {f:α→List Value} (hf:∀x,(f x).length=n) (h0:0<n) {b off:Nat} (R:α→Prop)
  (h:∀i,i<len→∃x,R x∧∀j u,(f x)[j]? =some u→W.cell? ⟨b,off+(i*n+j),none⟩=some u):∃l:List α,l.length=len∧(∀x∈l,R x)∧∀j u,(l.flatMap f)[j]? =some u→W.cell? ⟨b,off+j,none⟩=some u:=by
 induction len with
 |zero=>exact ⟨[],rfl,by simp,by simp⟩
 |succ m ih=>
  obtain ⟨l,h1,h2,h3⟩:=ih (fun i hi=>h i (by omega))
  obtain ⟨x,hx,hc⟩:=h m (by omega)
  refine ⟨l++[x],by simp [h1],fun y hy=> ?_,fun j u hj=> ?_⟩
  ·rcases List.mem_append.1 hy with h|h
   ·exact h2 y h
   ·simp at h;subst h;exact hx
  ·have hll:(l.flatMap f).length=m*n:=by rw [flat_len n f hf,h1]
   rw [List.flatMap_append] at hj
   by_cases hjl:j<m*n
   ·rw [List.getElem?_append_left (by omega)] at hj
    exact h3 j u hj
   ·rw [List.getElem?_append_right (by omega),hll] at hj
    have:=hc (j-m*n) u (by simpa using hj)
    rw [show m*n+(j-m*n)=j by omega] at this
    exact this
theorem flat_one {α:Type} (g:α→Value):∀l:List α,l.flatMap (fun x=>[g x])=l.map g
 |[]=>rfl
 |x::l=>by rw [List.flatMap_cons,flat_one g l];rfl
theorem open_strs {t:TypeId} (ht:Tryz.prog.underlying t=some (.slice 9)) {v:Value} {fuel:Nat} {x:DataW H×List MemPlace} (h:DataW.trod enc Tryz.prog W 0 (fun _=>true) true fuel t [v]=some x):
  ∃ss,StrsSl W v ss∧∀s∈ss,s.size≤9223372036854775807:=by
 obtain ⟨ao,len,cap,rfl,h1,h2,h3,hA⟩:=open_sl 1 ht (by kernel_rfl) (by decide) h
 by_cases h0:0<len
 ·obtain ⟨b,off,rfl,hc⟩:=hA h0
  obtain ⟨ss,hl,hR,hcells⟩:=sl_of (W:=W) (n:=1) (len:=len) (f:=fun s:ByteArray=>[Value.string s]) (fun _=>rfl) (by decide) (b:=b) (off:=off) (fun s=>s.size≤9223372036854775807) (fun i hi=>by
   obtain ⟨cs,k,y,hl,hcell,ht'⟩:=hc i hi
   obtain ⟨s,hs,_,hsz⟩:=DataW.trod_string Tryz.underlying9 ht'
   subst hs
   exact ⟨s,by unfold maxLen at hsz;omega,hcell⟩)
  subst hl
  rw [flat_one] at hcells
  exact ⟨ss,⟨by simp,_,cap,rfl,h1,h2,(fun h=>by cases h),fun _=>⟨b,off,rfl,hcells⟩⟩,hR⟩
 ·obtain rfl:len=0:=by omega
  exact ⟨[],⟨by simp,ao,cap,rfl,h1,h2,h3,fun h=>by simp at h⟩,by simp⟩
theorem open_nums {t:TypeId} (ht:Tryz.prog.underlying t=some (.slice 2)) {v:Value} {fuel:Nat} {x:DataW H×List MemPlace} (h:DataW.trod enc Tryz.prog W 0 (fun _=>true) true fuel t [v]=some x):
  ∃xs,IntsSl W v xs∧∀n∈xs,I64 n:=by
 obtain ⟨ao,len,cap,rfl,h1,h2,h3,hA⟩:=open_sl 1 ht (by kernel_rfl) (by decide) h
 by_cases h0:0<len
 ·obtain ⟨b,off,rfl,hc⟩:=hA h0
  obtain ⟨xs,hl,hR,hcells⟩:=sl_of (W:=W) (n:=1) (len:=len) (f:=fun s:Int=>[Value.int .i64 s]) (fun _=>rfl) (by decide) (b:=b) (off:=off) I64 (fun i hi=>by
   obtain ⟨cs,k,y,hl,hcell,ht'⟩:=hc i hi
   obtain ⟨s,hs,_,hsz⟩:=DataW.trod_int Tryz.underlying2 ht'
   subst hs
   exact ⟨s,i64_of_wf hsz,hcell⟩)
  subst hl
  rw [flat_one] at hcells
  exact ⟨xs,⟨by simp,_,cap,rfl,h1,h2,(fun h=>by cases h),fun _=>⟨b,off,rfl,hcells⟩⟩,hR⟩
 ·obtain rfl:len=0:=by omega
  exact ⟨[],⟨by simp,ao,cap,rfl,h1,h2,h3,fun h=>by simp at h⟩,by simp⟩
theorem val_of {cs:List Value} {k:Nat} {y:DataW H×List MemPlace} (h:DataW.trod enc Tryz.prog W 0 (fun _=>true) true k 65 cs=some y):∃v:ValD,cs=v.cells∧v.s.size≤9223372036854775807:=by
 obtain ⟨y0,y1,n,_,hl,h0,h1⟩:=trod_struct2 Tryz.underlying65 h
 have hC:Tryz.prog.cellsOf 65=2:=by kernel_rfl
 rw [hC] at hl
 match cs,hl with
 |[a,b],_=>
  obtain ⟨s,e0,_,hs⟩:=DataW.trod_string Tryz.underlying9 h0
  obtain ⟨c,e1,_⟩:=DataW.trod_bool Tryz.underlying4 h1
  have c0:Tryz.prog.cellsOf 9=1:=by kernel_rfl
  have c1:Tryz.prog.cellsOf 4=1:=by kernel_rfl
  rw [c0] at e0
  rw [c1] at e1
  simp at e0 e1
  subst e0 e1
  exact ⟨⟨s,c⟩,rfl,by unfold maxLen at hs;omega⟩
theorem open_vals {t:TypeId} (ht:Tryz.prog.underlying t=some (.slice 65)) {v:Value} {fuel:Nat} {x:DataW H×List MemPlace} (h:DataW.trod enc Tryz.prog W 0 (fun _=>true) true fuel t [v]=some x):
  ∃l,ValsSl W v l∧∀v∈l,v.s.size≤9223372036854775807:=by
 obtain ⟨ao,len,cap,rfl,h1,h2,h3,hA⟩:=open_sl 2 ht (by kernel_rfl) (by decide) h
 by_cases h0:0<len
 ·obtain ⟨b,off,rfl,hc⟩:=hA h0
  obtain ⟨l,hl,hR,hcells⟩:=sl_of (W:=W) (n:=2) (len:=len) (f:=ValD.cells) ValD.cells_len (by decide) (b:=b) (off:=off) (fun v=>v.s.size≤9223372036854775807) (fun i hi=>by
   obtain ⟨cs,k,y,hl,hcell,ht'⟩:=hc i hi
   obtain ⟨v,hv,hsz⟩:=val_of ht'
   subst hv
   exact ⟨v,hsz,hcell⟩)
  subst hl
  exact ⟨l,⟨flat_len 2 _ ValD.cells_len l,_,cap,rfl,h1,h2,(fun h=>by cases h),fun _=>⟨b,off,rfl,hcells⟩⟩,hR⟩
 ·obtain rfl:len=0:=by omega
  exact ⟨[],⟨by simp,ao,cap,rfl,h1,h2,h3,fun h=>by simp at h⟩,by simp⟩
theorem open_sch {v:Value} {d:DataW H} {p:List MemPlace} (hv:Value.okWide Tryz.prog W .any base 45 v) (h:DataW.Trod enc Tryz.prog W 0 (fun _=>true) true 45 v d p):
  ∃vd vm ds ms g,v= .agg #[vd,vm,.int .i64 g]∧StrsSl W vd ds∧StrsSl W vm ms∧(∀s∈ds,s.size≤9223372036854775807)∧(∀s∈ms,s.size≤9223372036854775807)∧I64 g:=by
 obtain ⟨v0,v1,v2,y0,y1,y2,m,rfl,_,_,h0,h1,h2⟩:=open_agg3 (P:=Tryz.prog) Tryz.underlying45 (by kernel_rfl) (by kernel_rfl) hv h
 obtain ⟨ds,a1,a2⟩:=open_strs Tryz.underlying23 h0
 obtain ⟨ms,b1,b2⟩:=open_strs Tryz.underlying23 h1
 obtain ⟨g,e,_,hg⟩:=DataW.trod_int Tryz.underlying2 h2
 simp at e
 subst e
 exact ⟨v0,v1,ds,ms,g,rfl,a1,b1,a2,b2,i64_of_wf hg⟩
end
section
variable {H:Type} {enc:TypeId×Value→H} {W:World} {base:Nat}
theorem key_of {cs:List Value} {k:Nat} {y:DataW H×List MemPlace} (h:DataW.trod enc Tryz.prog W 0 (fun _=>true) true k 131 cs=some y):∃v:KeyD,cs=v.cells∧I64 v.pos:=by
 obtain ⟨y0,y1,y2,n,_,hl,h0,h1,h2⟩:=trod_struct3 Tryz.underlying131 h
 have hC:Tryz.prog.cellsOf 131=3:=by kernel_rfl
 rw [hC] at hl
 match cs,hl with
 |[a,b,c],_=>
  obtain ⟨g,e0,_⟩:=DataW.trod_bool Tryz.underlying4 h0
  obtain ⟨p,e1,_,hp⟩:=DataW.trod_int Tryz.underlying3 h1
  obtain ⟨d,e2,_⟩:=DataW.trod_bool Tryz.underlying4 h2
  have c0:Tryz.prog.cellsOf 4=1:=by kernel_rfl
  have c1:Tryz.prog.cellsOf 3=1:=by kernel_rfl
  rw [c0] at e0 e2
  rw [c1] at e1
  simp at e0 e1 e2
  subst e0 e1 e2
  exact ⟨⟨g,p,d⟩,rfl,i64_of_wf hp⟩
theorem open_keys {t:TypeId} (ht:Tryz.prog.underlying t=some (.slice 131)) {v:Value} {fuel:Nat} {x:DataW H×List MemPlace} (h:DataW.trod enc Tryz.prog W 0 (fun _=>true) true fuel t [v]=some x):
  ∃l,KeysSl W v l∧∀k∈l,I64 k.pos:=by
 obtain ⟨ao,len,cap,rfl,h1,h2,h3,hA⟩:=open_sl 3 ht (by kernel_rfl) (by decide) h
 by_cases h0:0<len
 ·obtain ⟨b,off,rfl,hc⟩:=hA h0
  obtain ⟨l,hl,hR,hcells⟩:=sl_of (W:=W) (n:=3) (len:=len) (f:=KeyD.cells) KeyD.cells_len (by decide) (b:=b) (off:=off) (fun v=>I64 v.pos) (fun i hi=>by
   obtain ⟨cs,k,y,hl,hcell,ht'⟩:=hc i hi
   obtain ⟨v,hv,hsz⟩:=key_of ht'
   subst hv
   exact ⟨v,hsz,hcell⟩)
  subst hl
  exact ⟨l,⟨flat_len 3 _ KeyD.cells_len l,_,cap,rfl,h1,h2,(fun h=>by cases h),fun _=>⟨b,off,rfl,hcells⟩⟩,hR⟩
 ·obtain rfl:len=0:=by omega
  exact ⟨[],⟨by simp,ao,cap,rfl,h1,h2,h3,fun h=>by simp at h⟩,by simp⟩
theorem cond_of {cs:List Value} {k:Nat} {y:DataW H×List MemPlace} (h:DataW.trod enc Tryz.prog W 0 (fun _=>true) true k 57 cs=some y):∃v:CondD,cs=v.cells∧I64 v.pos∧I64 v.op∧I64 v.n:=by
 obtain ⟨y0,y1,y2,n,_,hl,h0,h1,h2⟩:=trod_struct3 Tryz.underlying57 h
 have hC:Tryz.prog.cellsOf 57=3:=by kernel_rfl
 rw [hC] at hl
 match cs,hl with
 |[a,b,c],_=>
  obtain ⟨g,e0,_,hg⟩:=DataW.trod_int Tryz.underlying3 h0
  obtain ⟨p,e1,_,hp⟩:=DataW.trod_int Tryz.underlying3 h1
  obtain ⟨d,e2,_,hd⟩:=DataW.trod_int Tryz.underlying2 h2
  have c0:Tryz.prog.cellsOf 2=1:=by kernel_rfl
  have c1:Tryz.prog.cellsOf 3=1:=by kernel_rfl
  rw [c1] at e0 e1
  rw [c0] at e2
  simp at e0 e1 e2
  subst e0 e1 e2
  exact ⟨⟨g,p,d⟩,rfl,i64_of_wf hg,i64_of_wf hp,i64_of_wf hd⟩
theorem open_conds {t:TypeId} (ht:Tryz.prog.underlying t=some (.slice 57)) {v:Value} {fuel:Nat} {x:DataW H×List MemPlace} (h:DataW.trod enc Tryz.prog W 0 (fun _=>true) true fuel t [v]=some x):
  ∃l,CondsSl W v l∧∀k∈l,I64 k.pos∧I64 k.op∧I64 k.n:=by
 obtain ⟨ao,len,cap,rfl,h1,h2,h3,hA⟩:=open_sl 3 ht (by kernel_rfl) (by decide) h
 by_cases h0:0<len
 ·obtain ⟨b,off,rfl,hc⟩:=hA h0
  obtain ⟨l,hl,hR,hcells⟩:=sl_of (W:=W) (n:=3) (len:=len) (f:=CondD.cells) CondD.cells_len (by decide) (b:=b) (off:=off) (fun v=>I64 v.pos∧I64 v.op∧I64 v.n) (fun i hi=>by
   obtain ⟨cs,k,y,hl,hcell,ht'⟩:=hc i hi
   obtain ⟨v,hv,hsz⟩:=cond_of ht'
   subst hv
   exact ⟨v,hsz,hcell⟩)
  subst hl
  exact ⟨l,⟨flat_len 3 _ CondD.cells_len l,_,cap,rfl,h1,h2,(fun h=>by cases h),fun _=>⟨b,off,rfl,hcells⟩⟩,hR⟩
 ·obtain rfl:len=0:=by omega
  exact ⟨[],⟨by simp,ao,cap,rfl,h1,h2,h3,fun h=>by simp at h⟩,by simp⟩
theorem agg_of {cs:List Value} {k:Nat} {y:DataW H×List MemPlace} (h:DataW.trod enc Tryz.prog W 0 (fun _=>true) true k 71 cs=some y):∃v:AggD,cs=v.cells∧I64 v.kind∧v.metric.size≤9223372036854775807:=by
 obtain ⟨y0,y1,n,_,hl,h0,h1⟩:=trod_struct2 Tryz.underlying71 h
 have hC:Tryz.prog.cellsOf 71=2:=by kernel_rfl
 rw [hC] at hl
 match cs,hl with
 |[a,b],_=>
  obtain ⟨g,e0,_,hg⟩:=DataW.trod_int Tryz.underlying3 h0
  obtain ⟨s,e1,_,hs⟩:=DataW.trod_string Tryz.underlying9 h1
  have c0:Tryz.prog.cellsOf 9=1:=by kernel_rfl
  have c1:Tryz.prog.cellsOf 3=1:=by kernel_rfl
  rw [c1] at e0
  rw [c0] at e1
  simp at e0 e1
  subst e0 e1
  exact ⟨⟨g,s⟩,rfl,i64_of_wf hg,by unfold maxLen at hs;omega⟩
theorem open_aggs {t:TypeId} (ht:Tryz.prog.underlying t=some (.slice 71)) {v:Value} {fuel:Nat} {x:DataW H×List MemPlace} (h:DataW.trod enc Tryz.prog W 0 (fun _=>true) true fuel t [v]=some x):
  ∃l,AggsSl W v l∧∀k∈l,I64 k.kind∧k.metric.size≤9223372036854775807:=by
 obtain ⟨ao,len,cap,rfl,h1,h2,h3,hA⟩:=open_sl 2 ht (by kernel_rfl) (by decide) h
 by_cases h0:0<len
 ·obtain ⟨b,off,rfl,hc⟩:=hA h0
  obtain ⟨l,hl,hR,hcells⟩:=sl_of (W:=W) (n:=2) (len:=len) (f:=AggD.cells) AggD.cells_len (by decide) (b:=b) (off:=off) (fun v=>I64 v.kind∧v.metric.size≤9223372036854775807) (fun i hi=>by
   obtain ⟨cs,k,y,hl,hcell,ht'⟩:=hc i hi
   obtain ⟨v,hv,hsz⟩:=agg_of ht'
   subst hv
   exact ⟨v,hsz,hcell⟩)
  subst hl
  exact ⟨l,⟨flat_len 2 _ AggD.cells_len l,_,cap,rfl,h1,h2,(fun h=>by cases h),fun _=>⟨b,off,rfl,hcells⟩⟩,hR⟩
 ·obtain rfl:len=0:=by omega
  exact ⟨[],⟨by simp,ao,cap,rfl,h1,h2,h3,fun h=>by simp at h⟩,by simp⟩
end
section
variable {H:Type} {enc:TypeId×Value→H} {W:World} {base:Nat}
end
theorem FilS.deeper {S:Nat→Prop} {w:World}:∀{d:Nat} {cs:List Value} {f:FilD},FilS S w d cs f→FilS S w (d+1) cs f
 |0,cs,f,h=>by simp [FilS] at h
 |d+1,cs,.mk k n ws fr till l,h=>by
  unfold FilS at h ⊢
  obtain ⟨vw,vl,rows,h1,h2,h3,h4,h5,h6,h7,h8⟩:=h
  exact ⟨vw,vl,rows,h1,h2,h3,h4,h5,h6,h7,fun i hi r hr=>(h8 i hi r hr).deeper⟩
theorem SlS.all {w:World} {v:Value} {n size:Nat} {cs:List Value} (h:SlAt w v n size cs):SlS (fun _=>True) w v n size cs:=by
 obtain ⟨h0,ao,cap,rfl,h1,h2,h3,h⟩:=h
 refine ⟨h0,ao,cap,rfl,h1,h2,h3,fun hl=> ?_⟩
 obtain ⟨b,off,rfl,hc⟩:=h hl
 exact ⟨b,off,rfl,trivial,hc⟩
theorem flatten_cells {rows:List (List Value)} (h6:∀r∈rows,r.length=6) {w:World} {b off:Nat} (h:∀i r,rows[i]? =some r→∀j u,r[j]? =some u→w.cell? ⟨b,off+(i*6+j),none⟩=some u):
  rows.flatten.length=rows.length*6∧∀j u,rows.flatten[j]? =some u→w.cell? ⟨b,off+j,none⟩=some u:=by
 have hl:rows.flatten.length=rows.length*6:=by
  have e:rows.flatten=rows.flatMap id:=by simp [List.flatMap]
  clear h
  rw [e]
  clear e
  induction rows with
  |nil=>rfl
  |cons x l ih=>
   have hx:=h6 x (by simp)
   rw [List.flatMap_cons,List.length_append,ih (fun r hr=>h6 r (by simp [hr])),List.length_cons]
   simp only [id]
   omega
 refine ⟨hl,fun j u hj=> ?_⟩
 have hj1:j<rows.length*6:=by rw [←hl];exact (List.getElem?_eq_some_iff.1 hj).1
 have hq:j/6<rows.length:=by omega
 have hr:=List.getElem?_eq_getElem hq
 have e:j=j/6*6+j % 6:=by omega
 rw [e,flatten_at h6 hr (Nat.mod_lt _ (by decide))] at hj
 have:=h _ _ hr _ _ hj
 rwa [←e] at this
section
variable {H:Type} {enc:TypeId×Value→H} {W:World} {base:Nat}
theorem trod_field {t:TypeId} {fs:Array Field} {fuel:Nat} {cs:List Value} {y:DataW H×List MemPlace} (ht:Tryz.prog.underlying t=some (.struct fs)) (h:DataW.trod enc Tryz.prog W 0 (fun _=>true) true fuel t cs=some y) (i:Nat) (T:TypeId) (o c:Nat) (hi:(fs[i]?.map fun f=>(f.type,f.offset))=some (T,o)) (hc:Tryz.prog.cellsOf T=c):
  ∃n x,fuel=n+1∧DataW.trod enc Tryz.prog W 0 (fun _=>true) true n T ((cs.drop o).take c)=some x:=by
 obtain ⟨xs,n,hn,_,_,hx,hf⟩:=DataW.trod_struct ht h
 obtain ⟨f,hf1,hf2⟩:=Option.map_eq_some_iff.1 hi
 have h1:=hf i f hf1
 have hlt:i<fs.size:=by
  rcases Nat.lt_or_ge i fs.size with h|h
  ·exact h
  ·rw [Array.getElem?_eq_none h] at hf1;cases hf1
 obtain ⟨a,b⟩:f.type=T∧f.offset=o:=by simpa using hf2
 rw [a,b,hc,List.getElem?_eq_getElem (by omega)] at h1
 exact ⟨n,_,hn,h1⟩
theorem open_sets {t:TypeId} (ht:Tryz.prog.underlying t=some (.slice 23)) {v:Value} {fuel:Nat} {x:DataW H×List MemPlace} (h:DataW.trod enc Tryz.prog W 0 (fun _=>true) true fuel t [v]=some x):
  ∃l,SetsSl W v l∧∀k∈l,∀s∈k,s.size≤9223372036854775807:=by
 obtain ⟨ao,len,cap,rfl,h1,h2,h3,hA⟩:=open_sl 1 ht (by kernel_rfl) (by decide) h
 by_cases h0:0<len
 ·obtain ⟨b,off,rfl,hc⟩:=hA h0
  obtain ⟨l,hl,hR,hcells⟩:=sl_of (W:=W) (n:=1) (len:=len) (f:=fun p:Value×List ByteArray=>[p.1]) (fun _=>rfl) (by decide) (b:=b) (off:=off) (fun p=>StrsSl W p.1 p.2∧∀s∈p.2,s.size≤9223372036854775807) (fun i hi=>by
   obtain ⟨cs,k,y,hl,hcell,ht'⟩:=hc i hi
   match cs,hl with
   |[v],_=>
    obtain ⟨ss,s1,s2⟩:=open_strs Tryz.underlying23 ht'
    exact ⟨(v,ss),⟨s1,s2⟩,hcell⟩)
  subst hl
  rw [flat_one] at hcells
  refine ⟨l.map (·.2),⟨l.map (·.1),by simp,⟨by simp,_,cap,by simp,by simpa using h1,h2,(fun h=>by cases h),fun _=>⟨b,off,rfl,hcells⟩⟩,fun i hi x hx=> ?_⟩,fun k hk=> ?_⟩
  ·simp at hi
   simp [hi] at hx
   subst hx
   simpa using (hR _ (List.getElem_mem hi)).1
  ·obtain ⟨p,hp,rfl⟩:=List.mem_map.1 hk
   exact (hR p hp).2
 ·obtain rfl:len=0:=by omega
  exact ⟨[],⟨[],rfl,⟨by simp,ao,cap,rfl,h1,h2,h3,fun h=>by simp at h⟩,fun i hi=>by simp at hi⟩,by simp⟩
structure QryOk (d:QryD):Prop where
 aggs:∀k∈d.aggs,I64 k.kind∧k.metric.size≤9223372036854775807
 by_:∀s∈d.by_,s.size≤9223372036854775807
 mode:I64 d.mode
 sets:∀k∈d.sets,∀s∈k,s.size≤9223372036854775807
 every:I64 d.every
 having:∀k∈d.having,I64 k.pos∧I64 k.op∧I64 k.n
 order:∀k∈d.order,I64 k.pos
 limit:I64 d.limit
end
theorem SlS.take {S:Nat→Prop} {w:World} {ao:Option Addr} {n cap size:Nat} {cs:List Value} (h:SlS S w (.slice ao n cap) n size cs) {k:Nat} (hk:k≤n):SlS S w (.slice ao k cap) k size (cs.take (k*size)):=by
 obtain ⟨h0,ao',cap',e,h1,h2,h3,h⟩:=h
 simp only [Value.slice.injEq,true_and] at e
 obtain ⟨rfl,rfl⟩:=e
 have hle:k*size≤n*size:=Nat.mul_le_mul_right size hk
 refine ⟨by simp;omega,ao,cap,rfl,by omega,h2,h3,fun hl=> ?_⟩
 obtain ⟨b,off,rfl,hS,hc⟩:=h (by simp at hl;omega)
 refine ⟨b,off,rfl,hS,fun j u hj=>hc j u ?_⟩
 have hjl:j<k*size:=by have:=(List.getElem?_eq_some_iff.1 hj).1;simp at this;omega
 rw [List.getElem?_take_of_lt hjl] at hj
 exact hj
theorem SlS.take_flat {α:Type} (c:α→List Value) (n:Nat) (hc:∀x,(c x).length=n) {S:Nat→Prop} {w:World} {an:Option Addr} {cn:Nat} {xs:List α} (h:SlS S w (.slice an xs.length cn) xs.length n (xs.flatMap c)) (k:Nat):SlS S w (.slice an (min xs.length k) cn) (xs.take k).length n ((xs.take k).flatMap c):=by
 have h2:=SlS.take h (k:=min xs.length k) (Nat.min_le_left _ _)
 have e:(xs.take k).length=min xs.length k:=by rw [List.length_take,Nat.min_comm]
 have e2:xs.take (min xs.length k)=xs.take k:=by
  by_cases hk:k≤xs.length
  ·rw [Nat.min_eq_right hk]
  ·rw [Nat.min_eq_left (by omega),List.take_length,List.take_of_length_le (by omega)]
 rw [flat_take n c hc,e2] at h2
 rw [e]
 exact h2
theorem SlS.lt {S:Nat→Prop} {w:World} {v:Value} {n size:Nat} {cs:List Value} (h:SlS S w v n size cs):SlS (fun b=>S b∧b<w.heap.size) w v n size cs:=by
 obtain ⟨h0,ao,cap,rfl,h1,h2,h3,h⟩:=h
 refine ⟨h0,ao,cap,rfl,h1,h2,h3,fun hl=> ?_⟩
 obtain ⟨b,off,rfl,hS,hc⟩:=h hl
 exact ⟨b,off,rfl,⟨hS,World.block_lt_of_cell? _ _ (hc 0 _ (List.getElem?_eq_getElem hl))⟩,hc⟩
theorem SlAt.all {w:World} {v:Value} {n size:Nat} {cs:List Value} (h:SlAt w v n size cs):SlS (fun b=>b<w.heap.size) w v n size cs:=by
 have:=(SlS.all h).lt
 exact this.keep (fun _ h=>h.2) (fun _ _ _=>rfl)
theorem FilS.lt {S:Nat→Prop} {w:World}:∀{d:Nat} {cs:List Value} {f:FilD},FilS S w d cs f→FilS (fun b=>S b∧b<w.heap.size) w d cs f
 |0,cs,f,h=>by simp [FilS] at h
 |d+1,cs,.mk k n ws fr till l,h=>by
  unfold FilS at h ⊢
  obtain ⟨vw,vl,rows,h1,h2,h3,h4,h5,h6,h7,h8⟩:=h
  exact ⟨vw,vl,rows,h1,h2,h3.lt,h4,h5,h6,h7.lt,fun i hi r hr=>(h8 i hi r hr).lt⟩
structure QryN (S:Nat→Prop) (w:World) (q:QryV) (d:QryD):Prop where
 aggs:SlS S w (.slice q.aa q.an q.ac) d.aggs.length 2 (d.aggs.flatMap AggD.cells)
 by_:SlS S w (.slice q.ba q.bn q.bc) d.by_.length 1 (strsV d.by_)
 mode:q.mode=d.mode
 sets:∃vs:List Value,vs.length=d.sets.length∧SlS S w (.slice q.sa q.sn q.sc) d.sets.length 1 vs∧∀i (hi:i<d.sets.length) x,vs[i]? =some x→SlS S w x d.sets[i].length 1 (strsV d.sets[i])
 every:q.every=d.every
 wher:∃D,FilS S w D [.int .i64 q.kind,.string q.name,.slice q.wa q.wn q.wc,.int .i64 q.fr,.int .i64 q.till,.slice q.la q.ln q.lc] d.wher
 having:SlS S w (.slice q.ha q.hn q.hc) d.having.length 3 (d.having.flatMap CondD.cells)
 order:SlS S w (.slice q.oa q.on q.oc) d.order.length 3 (d.order.flatMap KeyD.cells)
 limit:q.limit=d.limit
theorem QryN.keep {S T:Nat→Prop} {w w':World} {q:QryV} {d:QryD} (h:QryN S w q d) (hST:∀b,S b→T b) (hk:∀b,S b→b<w.heap.size→w'.heap[b]? =w.heap[b]?):QryN T w' q d:=by
 obtain ⟨vs,v1,v2,v3⟩:=h.sets
 obtain ⟨D,hD⟩:=h.wher
 exact ⟨h.aggs.keep hST hk,h.by_.keep hST hk,h.mode,⟨vs,v1,v2.keep hST hk,fun i hi x hx=>(v3 i hi x hx).keep hST hk⟩,h.every,⟨D,hD.keep hST hk⟩,h.having.keep hST hk,h.order.keep hST hk,h.limit⟩
theorem QryN.below {S:Nat→Prop} {w w':World} {q:QryV} {d:QryD} (h:QryN S w q d) (hb:Below w.heap.size w w'):QryN S w' q d:=h.keep (fun _ h=>h) (fun b _ hl=>hb.block b hl)
theorem QryN.is {S:Nat→Prop} {w:World} {q:QryV} {d:QryD} (h:QryN S w q d):QryIs w q d:=by
 obtain ⟨vs,v1,v2,v3⟩:=h.sets
 obtain ⟨D,hD⟩:=h.wher
 exact ⟨h.aggs.sl,h.by_.sl,h.mode,⟨vs,v1,v2.sl,fun i hi x hx=>(v3 i hi x hx).sl⟩,h.every,⟨D,hD.keep (fun _ _=>trivial) (fun _ _ _=>rfl)⟩,h.having.sl,h.order.sl,h.limit⟩
theorem QryIs.all {w:World} {q:QryV} {d:QryD} (h:QryIs w q d):QryN (fun b=>b<w.heap.size) w q d:=by
 obtain ⟨vs,v1,v2,v3⟩:=h.sets
 obtain ⟨D,hD⟩:=h.wher
 exact ⟨SlAt.all h.aggs,SlAt.all h.by_,h.mode,⟨vs,v1,SlAt.all v2,fun i hi x hx=>SlAt.all (v3 i hi x hx)⟩,h.every,⟨D,hD.lt.keep (fun _ h=>h.2) (fun _ _ _=>rfl)⟩,SlAt.all h.having,SlAt.all h.order,h.limit⟩
theorem QryN.lt {S:Nat→Prop} {w:World} {q:QryV} {d:QryD} (h:QryN S w q d):QryN (fun b=>S b∧b<w.heap.size) w q d:=by
 obtain ⟨vs,v1,v2,v3⟩:=h.sets
 obtain ⟨D,hD⟩:=h.wher
 exact ⟨h.aggs.lt,h.by_.lt,h.mode,⟨vs,v1,v2.lt,fun i hi x hx=>(v3 i hi x hx).lt⟩,h.every,⟨D,hD.lt⟩,h.having.lt,h.order.lt,h.limit⟩
end Go.Proofs.YtejleplhmkmegaaGreatDoor
namespace Go
theorem grown_row {P:Program} {w:World} {g:Nat} {old cells:Array Value} {t:TypeId} (hg:w.heap[g]? =some (.cells old t (0,0))):w.grownBy (w.setRow g cells) (some g):=
 ⟨rfl,rfl,rfl,by simp,fun k _ hk=>setRow_other w g k _ (fun e=>hk (by simp [e]))⟩
theorem wpList_store_blk {P:Program} {ops:Array Oper} {rest:List Oper} {o:Oper} {a:Act} {w:World} {Q:Exit→Act→World→Prop} (hgd:o.guard=none) (ty:TypeId) (x y:Operand) (ho:o.op= .store ty x y)
  (g:Nat) (cells:Array Value) (hx:a.eval x= .pointer (some ⟨g,0,none⟩)) (hy:a.eval y= .agg cells)
  (t:TypeId) (old:Array Value) (hg:w.heap[g]? =some (.cells old t (0,0))) (hi:(P.info? ty).map (·.size)=some cells.size)
  (hold:old.size=cells.size) (h1:cells.all (·.oneCell')=true)
  (h:∀X,X.heap[g]? =some (.cells cells t (0,0))→w.grownBy X (some g)→X.heap.size=w.heap.size→wpList P ops Q rest (a.put o.dst undef) X):wpList P ops Q (o::rest) a w:=
 wpList_store_row hgd ty x y ho g cells hx hy t old hg hi hold h1 (h _ (setRow_heap w g old cells t (0,0) hg) (grown_row (P:=P) hg) (by simp))
end Go
namespace Go.Proofs.YtejleplhmkmegaaGreatDoor
set_option linter.unusedVariables false
set_option linter.unusedSimpArgs false
set_option maxRecDepth 100000
open Go.ChangeShapes Go.WideShapes Go.ChangeAt Go.RowKit Go.Joins Go.Deep Go.Fl
structure LnN (S:Nat→Prop) (w:World) (v:LnV) (l:LineD):Prop where
 key:SlS S w (.slice v.ka v.kn v.kc) l.key.length 2 (l.key.flatMap ValD.cells)
 nums:SlS S w (.slice v.na v.nn v.nc) l.nums.length 3 (l.nums.flatMap NumD.cells)
 ok:∀x∈l.nums,NumOk x
theorem LnN.is {S:Nat→Prop} {w:World} {v:LnV} {l:LineD} (h:LnN S w v l):LnIs w v l:=⟨h.key.sl,h.nums.sl,h.ok⟩
theorem LnN.keep {S T:Nat→Prop} {w w':World} {v:LnV} {l:LineD} (h:LnN S w v l) (hST:∀b,S b→T b) (hk:∀b,S b→b<w.heap.size→w'.heap[b]? =w.heap[b]?):LnN T w' v l:=⟨h.key.keep hST hk,h.nums.keep hST hk,h.ok⟩
theorem LnN.below {S:Nat→Prop} {w w':World} {v:LnV} {l:LineD} (h:LnN S w v l) (hb:Below w.heap.size w w'):LnN S w' v l:=h.keep (fun _ h=>h) (fun b _ hl=>hb.block b hl)
theorem LnIs.all {w:World} {v:LnV} {l:LineD} (h:LnIs w v l):LnN (fun b=>b<w.heap.size) w v l:=⟨SlAt.all h.key,SlAt.all h.nums,h.ok⟩
def Far (n:Nat) (w:World) (b:Nat):Prop:=b<w.heap.size∨w.heap.size+n≤b
theorem LnN.kn {S:Nat→Prop} {w:World} {v:LnV} {l:LineD} (h:LnN S w v l):v.kn=l.key.length∧v.kn≤v.kc∧v.nn=l.nums.length∧v.nn≤v.nc:=by
 obtain ⟨p0,p1,_⟩:=SlAt.parts h.key.sl
 obtain ⟨q0,q1,_⟩:=SlAt.parts h.nums.sl
 omega
theorem LnN.cutN {S:Nat→Prop} {w:World} {v:LnV} {l:LineD} (h:LnN S w v l) {m:Nat} (hm:m≤v.nn):NumsSl w (.slice v.na m v.nc) (l.nums.take m):=by
 have h0:=h.kn
 have hs:=h.nums.sl
 rw [h0.2.2.1] at hs
 have h2:=SlAt.take hs (k:=m) (by omega)
 rw [flat_take 3 NumD.cells NumD.cells_len] at h2
 unfold NumsSl
 rw [show (l.nums.take m).length=m by rw [List.length_take];omega]
 exact h2
structure OneSt (w X:World) (q:QryV) (d:QryD) (a:LnV) (la:LineD) (b:LnV) (lb:LineD) (c:LnV) (lc:LineD):Prop where
 bq:X.heap[w.heap.size]? =some (.cells q.cells 33 (0,0))
 ba:X.heap[w.heap.size+1]? =some (.cells a.cells 37 (0,0))
 bb:X.heap[w.heap.size+1+1]? =some (.cells b.cells 37 (0,0))
 bc:X.heap[w.heap.size+1+1+1]? =some (.cells c.cells 37 (0,0))
 nq:QryN (Far 4 w) X q d
 na:LnN (Far 4 w) X a la
 nb:LnN (Far 4 w) X b lb
 nc:LnN (Far 4 w) X c lc
 bel:Below w.heap.size w X
section
variable {w X Y:World} {q q':QryV} {d d':QryD} {a b c a':LnV} {la lb lc l':LineD}
theorem OneSt.step (h:OneSt w X q d a la b lb c lc) (hb:Below X.heap.size X Y):OneSt w Y q d a la b lb c lc:=
 ⟨blk_below h.bq hb,blk_below h.ba hb,blk_below h.bb hb,blk_below h.bc hb,h.nq.below hb,h.na.below hb,h.nb.below hb,h.nc.below hb,h.bel.step hb⟩
theorem OneSt.size (h:OneSt w X q d a la b lb c lc):w.heap.size+4≤X.heap.size:=by have:=lt_of_block h.bc;omega
theorem far_keep {k:Nat} (h:X.grownBy Y (some k)) (hk:w.heap.size≤k∧k<w.heap.size+4):∀b,Far 4 w b→b<X.heap.size→Y.heap[b]? =X.heap[b]? :=fun b hb hl=>h.block b hl (fun e=>by
 have:=Option.some.inj e
 unfold Far at hb
 omega)
theorem grown_below {k:Nat} (h:X.grownBy Y (some k)) (hk:w.heap.size≤k) (hb:Below w.heap.size w X):Below w.heap.size w Y:=hb.grown h hb.size (fun r e=>by have:=Option.some.inj e;omega)
theorem OneSt.putQ (h:OneSt w X q d a la b lb c lc) (hn:QryN (Far 4 w) X q' d') (hg:X.grownBy Y (some w.heap.size)) (hq:Y.heap[w.heap.size]? =some (.cells q'.cells 33 (0,0))):OneSt w Y q' d' a la b lb c lc:=by
 have hs:=h.size
 have hk:=far_keep (w:=w) hg (by omega)
 have hb:∀k,k<w.heap.size+4→k≠w.heap.size→Y.heap[k]? =X.heap[k]? :=fun k h1 h2=>hg.block k (by omega) (fun e=>h2 (Option.some.inj e))
 exact ⟨hq,(hb _ (by omega) (by omega)).trans h.ba,(hb _ (by omega) (by omega)).trans h.bb,(hb _ (by omega) (by omega)).trans h.bc,hn.keep (fun _ h=>h) hk,h.na.keep (fun _ h=>h) hk,h.nb.keep (fun _ h=>h) hk,h.nc.keep (fun _ h=>h) hk,grown_below hg (Nat.le_refl _) h.bel⟩
end
end Go.Proofs.YtejleplhmkmegaaGreatDoor
namespace Go
def putAt (cur:Array Value) (o:Nat) (cs:Array Value):Array Value:=(cur.toList.take o++cs.toList++cur.toList.drop (o+cs.size)).toArray
theorem putAt_size (cur cs:Array Value) (o:Nat) (h:o+cs.size≤cur.size):(putAt cur o cs).size=cur.size:=by
 unfold putAt
 simp
 omega
theorem putAt_get (cur cs:Array Value) (o j:Nat) (h:o+cs.size≤cur.size):(putAt cur o cs)[j]? =if o≤j∧j<o+cs.size then cs[j-o]? else cur[j]? :=by
 unfold putAt
 rw [List.getElem?_toArray,List.append_assoc,List.getElem?_append]
 have e:(cur.toList.take o).length=o:=by simp;omega
 rw [e]
 by_cases h1:j<o
 ·have:¬(o≤j∧j<o+cs.size):=by omega
  simp [h1,this]
 ·rw [if_neg h1,List.getElem?_append]
  by_cases h2:j<o+cs.size
  ·have h3:j-o<cs.toList.length:=by simp;omega
   simp only [h3,if_true]
   rw [if_pos ⟨by omega,h2⟩]
   simp
  ·have h3:¬j-o<cs.toList.length:=by simp;omega
   simp only [h3,if_false]
   rw [if_neg (by omega)]
   simp
   congr 1
   omega
theorem run_storeVar_at {P:Program} (w:World) (g o:Nat) (t ty:TypeId) (cur cells:Array Value) (hg:w.heap[g]? =some (.cells cur t (0,0))) (hi:(P.info? ty).map (·.size)=some cells.size)
  (hf:o+cells.size≤cur.size) (h1:cells.all (·.oneCell')=true):
  (storeVar ty ⟨g,o,none⟩ (.agg cells)).run P w= .ok () (w.setRow g (putAt cur o cells)):=by
 have:=run_storeCells_at P g o t cells.toList 0 cur w hg (by simp;omega) (fun v hv=>(Array.all_eq_true_iff_forall_mem.1 h1) v (by simpa using hv))
 cases hq:P.info? ty with
 |none=>simp [hq] at hi
 |some i=>
  have hs:cells.size=i.size:=by simp [hq] at hi;omega
  simp only [Nat.add_zero,Array.length_toList] at this
  simp [storeVar,sizeOf,typeInfo,hq,Value.cells,hs,putAt]
  rw [this,hs,List.append_assoc]
theorem wp_store_at {P:Program} {o:Oper} {a:Act} {w:World} {K:Act→World→Prop} {Q:Exit→Act→World→Prop} (ty:TypeId) (x y:Operand) (ho:o.op= .store ty x y)
  (g k:Nat) (cells:Array Value) (hx:a.eval x= .pointer (some ⟨g,k,none⟩)) (hy:a.eval y= .agg cells)
  (t:TypeId) (cur:Array Value) (hg:w.heap[g]? =some (.cells cur t (0,0))) (hi:(P.info? ty).map (·.size)=some cells.size)
  (hf:k+cells.size≤cur.size) (h1:cells.all (·.oneCell')=true)
  (h:K (a.put o.dst undef) (w.setRow g (putAt cur k cells))):o.wp P a w K Q:=by
 unfold Oper.wp execOp
 simp only [ho,hx,hy,Instr.storeAt,Instr.sureAddr,Sem.run_bind,Sem.run_pure,Result.andThen_ok,run_storeVar_at w g k t ty cur cells hg hi hf h1]
 exact h
theorem wpList_store_at {P:Program} {ops:Array Oper} {rest:List Oper} {o:Oper} {a:Act} {w:World} {Q:Exit→Act→World→Prop} (hgd:o.guard=none) (ty:TypeId) (x y:Operand) (ho:o.op= .store ty x y)
  (g k:Nat) (cells:Array Value) (hx:a.eval x= .pointer (some ⟨g,k,none⟩)) (hy:a.eval y= .agg cells)
  (t:TypeId) (cur:Array Value) (hg:w.heap[g]? =some (.cells cur t (0,0))) (hi:(P.info? ty).map (·.size)=some cells.size)
  (hf:k+cells.size≤cur.size) (h1:cells.all (·.oneCell')=true)
  (h:∀X,X.heap[g]? =some (.cells (putAt cur k cells) t (0,0))→w.grownBy X (some g)→X.heap.size=w.heap.size→wpList P ops Q rest (a.put o.dst undef) X):wpList P ops Q (o::rest) a w:=
 wpList_plain hgd fun _ hK=>wp_store_at ty x y ho g k cells hx hy t cur hg hi hf h1 (hK _ _ (h _ (setRow_heap w g cur _ t (0,0) hg) (grown_row (P:=P) hg) (by simp)))
end Go
namespace Go.Proofs.YtejleplhmkmegaaGreatDoor
set_option linter.unusedVariables false
set_option linter.unusedSimpArgs false
set_option maxRecDepth 100000
open Go.ChangeShapes Go.WideShapes Go.ChangeAt Go.RowKit Go.Fl
structure El where
 v:LnV
 l:LineD
 i:Nat
theorem lncells_size (v:LnV):v.cells.size=4:=rfl
theorem lncells_one (v:LnV):v.cells.all (·.oneCell')=true:=by simp [LnV.cells,Value.oneCell']
def LnsAt (w:World) (B:Nat) (T:List El):Prop:=
 ∃cur,w.heap[B]? =some (.cells cur 37 (0,0))∧T.length*4≤cur.size∧∀i e j,T[i]? =some e→j<4→cur[i*4+j]? =e.v.cells[j]?
theorem LnsAt.cell {w:World} {B:Nat} {T:List El} (h:LnsAt w B T) {i:Nat} {e:El} (hi:T[i]? =some e):
  w.cell? ⟨B,i*4,none⟩=some (.int .i64 e.v.st)∧w.cell? ⟨B,i*4+1,none⟩=some (.int .i64 e.v.tm)∧w.cell? ⟨B,i*4+2,none⟩=some (.slice e.v.ka e.v.kn e.v.kc)∧w.cell? ⟨B,i*4+3,none⟩=some (.slice e.v.na e.v.nn e.v.nc):=by
 obtain ⟨cur,h1,_,h3⟩:=h
 refine ⟨?_,?_,?_,?_⟩
 ·rw [cell_of_row _ _ _ _ _ _ h1];exact h3 i e 0 hi (by decide)
 ·rw [cell_of_row _ _ _ _ _ _ h1];exact h3 i e 1 hi (by decide)
 ·rw [cell_of_row _ _ _ _ _ _ h1];exact h3 i e 2 hi (by decide)
 ·rw [cell_of_row _ _ _ _ _ _ h1];exact h3 i e 3 hi (by decide)
theorem LnsAt.put {w X:World} {B:Nat} {T:List El} {cur:Array Value} (h:LnsAt w B T) (hc:w.heap[B]? =some (.cells cur 37 (0,0))) {i:Nat} (hi:i<T.length) (e:El) (hx:X.heap[B]? =some (.cells (putAt cur (i*4) e.v.cells) 37 (0,0))):LnsAt X B (T.set i e):=by
 obtain ⟨cur',h1,h2,h3⟩:=h
 obtain rfl:cur'=cur:=by
  rw [hc] at h1
  injection h1 with h1
  injection h1 with h1
  exact h1.symm
 have hf:i*4+e.v.cells.size≤cur'.size:=by rw [lncells_size];omega
 refine ⟨_,hx,by rw [putAt_size _ _ _ hf,List.length_set];exact h2,fun k u j hk hj=> ?_⟩
 rw [putAt_get _ _ _ _ hf,lncells_size]
 rw [List.getElem?_set] at hk
 by_cases hik:i=k
 ·subst hik
  rw [if_pos rfl,if_pos hi] at hk
  obtain rfl:=Option.some.inj hk
  rw [if_pos (by omega)]
  congr 1
  omega
 ·rw [if_neg hik] at hk
  rw [if_neg (by omega)]
  exact h3 k u j hk hj
theorem LnsAt.row {w:World} {B:Nat} {T:List El} (h:LnsAt w B T):∃cur,w.heap[B]? =some (.cells cur 37 (0,0))∧T.length*4≤cur.size:=by
 obtain ⟨cur,h1,h2,_⟩:=h
 exact ⟨cur,h1,h2⟩
structure SortSt (w0 w:World) (B:Nat) (T:List El):Prop where
 at_:LnsAt w B T
 gr:w0.grownBy w (some B)
theorem SortSt.lt {w0 w:World} {B:Nat} {T:List El} (h:SortSt w0 w B T):B<w.heap.size:=by
 obtain ⟨cur,h1,_⟩:=h.at_.row
 exact (Array.getElem?_eq_some_iff.1 h1).1
theorem grown_refl (w:World) (r:Option Nat):w.grownBy w r:=⟨rfl,rfl,rfl,Nat.le_refl _,fun _ _ _=>rfl⟩
theorem grown_trans {a b c:World} {r:Option Nat} (h:a.grownBy b r) (k:b.grownBy c r):a.grownBy c r:=
 ⟨k.os.trans h.os,k.tape.trans h.tape,k.output.trans h.output,Nat.le_trans h.size k.size,fun i hi hr=>(k.block i (Nat.lt_of_lt_of_le hi h.size) hr).trans (h.block i hi hr)⟩
theorem grown_of_below {a b:World} (r:Option Nat) (h:Below a.heap.size a b):a.grownBy b r:=⟨h.os,h.tape,h.output,h.size,fun k hk _=>h.block k hk⟩
theorem SortSt.step {w0 w w':World} {B:Nat} {T:List El} (h:SortSt w0 w B T) (hb:Below w.heap.size w w'):SortSt w0 w' B T:=by
 refine ⟨?_,grown_trans h.gr (grown_of_below _ hb)⟩
 obtain ⟨cur,h1,h2,h3⟩:=h.at_
 exact ⟨cur,(hb.block B h.lt).trans h1,h2,h3⟩
theorem SortSt.drew {w0 w:World} {B:Nat} {T:List El} (h:SortSt w0 w B T):SortSt w0 w.drew B T:=h.step (Below.drew (Below.refl _ _))
theorem SortSt.put {w0 w X:World} {B:Nat} {T:List El} {cur:Array Value} (h:SortSt w0 w B T) (hc:w.heap[B]? =some (.cells cur 37 (0,0))) {i:Nat} (hi:i<T.length) (e:El) (hx:X.heap[B]? =some (.cells (putAt cur (i*4) e.v.cells) 37 (0,0))) (hg:w.grownBy X (some B)):SortSt w0 X B (T.set i e):=
 ⟨h.at_.put hc hi e hx,grown_trans h.gr hg⟩
def ElIn (w0:World) (B:Nat) (e:El):Prop:=LnN (fun b=>b≠B) w0 e.v e.l
theorem ElIn.now {w0 w:World} {B:Nat} {T:List El} {e:El} (h:ElIn w0 B e) (hs:SortSt w0 w B T):LnIs w e.v e.l:=
 (LnN.keep (T:=fun _=>True) h (fun _ _=>trivial) (fun b hb hl=>hs.gr.block b hl (fun he=>hb (Option.some.inj he)))).is
def swp (T:List El) (i j:Nat):List El:=match T[i]?,T[j]? with
 |some x,some y=>(T.set i y).set j x
 |_,_=>T
theorem swp_length (T:List El) (i j:Nat):(swp T i j).length=T.length:=by
 unfold swp
 split<;>simp
def swN (T:List El) (a b:Nat):Nat→List El
 |0=>T
 |n+1=>swp (swN T a b n) (a+n) (b+n)
theorem swN_length (T:List El) (a b n:Nat):(swN T a b n).length=T.length:=by
 induction n with
 |zero=>rfl
 |succ n ih=>rw [swN,swp_length,ih]
theorem linfoS:(Tryz.prog.info? 37).map (·.size)=some 4:=by kernel_rfl
def SortPost (w0:World) (B:Nat) (T:List El) (e:Ending) (w':World):Prop:=e= .returned (.tuple #[])∧SortSt w0 w' B T
set_option maxHeartbeats 8000000 in
theorem swapRange_any (cmp:Value) (w0 w:World) (B cap:Nat) (T:List El) (a b n N:Nat) (hl:T.length=N) (hN:N≤1000000) (hc:N≤cap) (hc2:cap≤maxLen) (ha:a+n≤N) (hb:b+n≤N) (h:SortSt w0 w B T):
  Calls Tryz.prog 231 #[.slice (some ⟨B,0,none⟩) N cap,.int .i64 a,.int .i64 b,.int .i64 n,cmp] w (SortPost w0 B (swN T a b n)):=by
 have HS:=hid h;have HL:=hid hl
 clear h hl
 unfold maxLen at hc2
 go_enter Tryz.func231,Tryz.ntmps231
 go_wp2
 go_loopw [10] (fun iv wr=>∃i:Nat,i≤n∧iv= .int .i64 (i:Int)∧SortSt w0 wr B (swN T a b i)) (fun iv _=>n-(intOf iv).toNat)
 case atStart=>exact ⟨0,Nat.zero_le _,rfl,HS.out⟩
 case round=>
  obtain ⟨i,hi,rfl,hs⟩:=hrel
  by_cases hin:i<n
  ·have hla:(swN T a b i).length=N:=(swN_length _ _ _ _).trans HL.out
   obtain ⟨p,hp⟩:∃p,a+i=p:=⟨_,rfl⟩
   obtain ⟨q,hq⟩:∃q,b+i=q:=⟨_,rfl⟩
   obtain ⟨x,hx⟩:∃x,(swN T a b i)[p]? =some x:=⟨_,List.getElem?_eq_getElem (by omega)⟩
   obtain ⟨y,hy⟩:∃y,(swN T a b i)[q]? =some y:=⟨_,List.getElem?_eq_getElem (by omega)⟩
   obtain ⟨x0,x1,x2,x3⟩:=hs.at_.cell hx
   obtain ⟨y0,y1,y2,y3⟩:=hs.at_.cell hy
   obtain ⟨cur,hcur,hsz⟩:=hs.at_.row
   have hst:=hid hs
   have v1:IntKind.i64.wrap (p:Int)=(p:Int):=by simp only [IntKind.wrap_i64];omega
   have v2:IntKind.i64.wrap (q:Int)=(q:Int):=by simp only [IntKind.wrap_i64];omega
   have e1:((a:Int)+(i:Int))=(p:Int):=by omega
   have e2:((b:Int)+(i:Int))=(q:Int):=by omega
   have q1:(0:Int)≤(p:Int):=by omega
   have q2:(p:Int)<(N:Int):=by omega
   have q3:(0:Int)≤(q:Int):=by omega
   have q4:(q:Int)<(N:Int):=by omega
   clear hs
   go_wp2
   have hS0:(fun w':World=>(w'.cell? ⟨B,p*4,none⟩=some (.int .i64 x.v.st)∧w'.cell? ⟨B,p*4+1,none⟩=some (.int .i64 x.v.tm)∧w'.cell? ⟨B,p*4+2,none⟩=some (.slice x.v.ka x.v.kn x.v.kc)∧w'.cell? ⟨B,p*4+3,none⟩=some (.slice x.v.na x.v.nn x.v.nc))∧(w'.cell? ⟨B,q*4,none⟩=some (.int .i64 y.v.st)∧w'.cell? ⟨B,q*4+1,none⟩=some (.int .i64 y.v.tm)∧w'.cell? ⟨B,q*4+2,none⟩=some (.slice y.v.ka y.v.kn y.v.kc)∧w'.cell? ⟨B,q*4+3,none⟩=some (.slice y.v.na y.v.nn y.v.nc))) wr.drew:=⟨⟨x0,x1,x2,x3⟩,y0,y1,y2,y3⟩
   refine wp_region_some (fun w':World=>(w'.cell? ⟨B,p*4,none⟩=some (.int .i64 x.v.st)∧w'.cell? ⟨B,p*4+1,none⟩=some (.int .i64 x.v.tm)∧w'.cell? ⟨B,p*4+2,none⟩=some (.slice x.v.ka x.v.kn x.v.kc)∧w'.cell? ⟨B,p*4+3,none⟩=some (.slice x.v.na x.v.nn x.v.nc))∧(w'.cell? ⟨B,q*4,none⟩=some (.int .i64 y.v.st)∧w'.cell? ⟨B,q*4+1,none⟩=some (.int .i64 y.v.tm)∧w'.cell? ⟨B,q*4+2,none⟩=some (.slice y.v.ka y.v.kn y.v.kc)∧w'.cell? ⟨B,q*4+3,none⟩=some (.slice y.v.na y.v.nn y.v.nc))) [4,5,6,7,20,21,22,23] (by kernel_rfl) ?_
   (refine wpMix_free (i:=4) (v:= ?_) rfl (by kernel_rfl) (fun _ _ _ h=>h) (Or.inl ⟨by rfl,?_⟩) ?_;rotate_left 1;(focus (intro w hSw;go_simp;try (with_reducible rfl)));(try simp only [Act.put,List.setIfInBounds_toArray,List.set_cons_zero,List.set_cons_succ]))
   (refine wpMix_free (i:=5) (v:= ?_) rfl (by kernel_rfl) (fun _ _ _ h=>h) (Or.inl ⟨by rfl,?_⟩) ?_;rotate_left 1;(focus (intro w hSw;go_simp;try (with_reducible rfl)));(try simp only [Act.put,List.setIfInBounds_toArray,List.set_cons_zero,List.set_cons_succ]))
   (refine wpMix_free (i:=6) (v:= ?_) rfl (by kernel_rfl) (fun _ _ _ h=>h) (Or.inl ⟨by rfl,?_⟩) ?_;rotate_left 1;(focus (intro w hSw;go_simp;try (with_reducible rfl)));(try simp only [Act.put,List.setIfInBounds_toArray,List.set_cons_zero,List.set_cons_succ]))
   (refine wpMix_free (i:=7) (v:= ?_) rfl (by kernel_rfl) (fun _ _ _ h=>h) (Or.inl ⟨by rfl,?_⟩) ?_;rotate_left 1;(focus (intro w hSw;go_simp;try (with_reducible rfl)));(try simp only [Act.put,List.setIfInBounds_toArray,List.set_cons_zero,List.set_cons_succ]))
   refine Tk 0 hS0 ?_
   refine Tk 1 hS0 ?_
   refine Tk 2 hS0 ?_
   refine Tk 3 hS0 ?_
   refine Tk 8 hS0 ?_
   refine Tk 9 hS0 ?_
   refine Tk 10 hS0 ?_
   refine Tk 11 hS0 ?_
   refine Tk 12 hS0 ?_
   refine Tk 13 hS0 ?_
   refine Tk 14 hS0 ?_
   refine Tk 15 hS0 ?_
   refine Tk 16 hS0 ?_
   refine Tk 17 hS0 ?_
   refine Tk 18 hS0 ?_
   refine Tk 19 hS0 ?_
   refine wpMix_rest [20,21,22,23] (by kernel_rfl) ?_
   simp only [opsAt,Ol]
   clear hS0 x0 x1 x2 x3 y0 y1 y2 y3
   have HC:=hid hcur
   clear hcur
   go_wp2_with (first
    |(refine wpList_store_at rfl _ _ _ rfl B (p*4) y.v.cells rfl rfl _ cur HC.out (by exact linfoS) (by rw [lncells_size];omega) (lncells_one _) ?_;intro X1 hX1 gX1 zX1;have s1:=hid (SortSt.put hst.out.drew HC.out (by omega) y hX1 gX1);have HC1:=hid hX1;clear hX1 gX1 zX1)
    |(refine wpList_store_at rfl _ _ _ rfl B (q*4) x.v.cells rfl rfl _ _ HC1.out (by exact linfoS) (by rw [lncells_size,putAt_size _ _ _ (by rw [lncells_size];omega)];omega) (lncells_one _) ?_;intro X2 hX2 gX2 zX2;have s2:=hid (SortSt.put s1.out HC1.out (by rw [List.length_set];omega) x hX2 gX2);clear hX2 gX2 zX2))
   have es:((swN T a b i).set p y).set q x=swN T a b (i+1):=by
    rw [swN,hp,hq]
    unfold swp
    rw [hx,hy]
   go_roundw
   case rel=>exact ⟨i+1,by omega,by go_num,by rw [←es];exact s2.out⟩
   case measure=>simp [intOf];omega
  ·obtain rfl:i=n:=by omega
   have hst:=hid hs
   clear hs
   go_wp2
   go_end0
   exact ⟨rfl,hst.out⟩
theorem set_mid {α:Type} (P:List α) (x y:α) (S:List α):(P++x::S).set P.length y=P++y::S:=by
 rw [List.set_append_right _ _ (Nat.le_refl _),Nat.sub_self,List.set_cons_zero]
theorem get_mid {α:Type} (P:List α) (x:α) (S:List α):(P++x::S)[P.length]? =some x:=by
 rw [List.getElem?_append_right (Nat.le_refl _),Nat.sub_self,List.getElem?_cons_zero]
theorem swp_split (P M S:List El) (x y:El) {i j:Nat} (hi:i=P.length) (hj:j=P.length+1+M.length):swp (P++x::(M++y::S)) i j=P++y::(M++x::S):=by
 subst hi
 have e:∀z:El,P++z::(M++y::S)=(P++z::M)++y::S:=fun z=>by simp
 have hl:j=(P++x::M).length:=by simp;omega
 have h1:=get_mid P x (M++y::S)
 have h2:(P++x::(M++y::S))[j]? =some y:=by rw [e,hl];exact get_mid _ y S
 unfold swp
 rw [h1,h2]
 simp only []
 rw [set_mid,e y]
 have hl2:j=(P++y::M).length:=by simp;omega
 rw [hl2,set_mid]
 simp
theorem swp_next (P S:List El) (x y:El) {i j:Nat} (hi:i=P.length) (hj:j=P.length+1):swp (P++x::y::S) j i=P++y::x::S:=by
 subst hi
 have e:∀z:El,P++z::y::S=(P++[z])++y::S:=fun z=>by simp
 have hl:j=(P++[x]).length:=by simp;omega
 have h1:=get_mid P x (y::S)
 have h2:(P++x::y::S)[j]? =some y:=by rw [e,hl];exact get_mid _ y S
 unfold swp
 rw [h1,h2]
 simp only []
 rw [e x,hl,set_mid]
 have:(P++[x])++x::S=P++x::x::S:=by simp
 rw [this,set_mid]
theorem snoc_of {α:Type} {l:List α} {n:Nat} (h:l.length=n+1):∃l' x,l=l'++[x]∧l'.length=n:=by
 have hn:l≠[]:=by intro h0;rw [h0] at h;cases h
 refine ⟨l.dropLast,l.getLast hn,(List.dropLast_concat_getLast hn).symm,by simp;omega⟩
theorem swN_split:∀(n:Nat) (P X M Y S:List El) (a b:Nat),a=P.length→X.length=n→Y.length=n→b=P.length+n+M.length→swN (P++X++M++Y++S) a b n=P++Y++M++X++S
 |0,P,X,M,Y,S,a,b,ha,hX,hY,hb=>by
  obtain rfl:=List.eq_nil_of_length_eq_zero hX
  obtain rfl:=List.eq_nil_of_length_eq_zero hY
  rfl
 |n+1,P,X,M,Y,S,a,b,ha,hX,hY,hb=>by
  obtain ⟨X',x,rfl,hX'⟩:=snoc_of hX
  obtain ⟨Y',y,rfl,hY'⟩:=snoc_of hY
  have ih:=swN_split n P X' ([x]++M) Y' ([y]++S) a b ha hX' hY' (by simp;omega)
  have e1:P++(X'++[x])++M++(Y'++[y])++S=P++X'++([x]++M)++Y'++([y]++S):=by simp
  rw [swN,e1,ih]
  have e2:P++Y'++([x]++M)++X'++([y]++S)=(P++Y')++x::((M++X')++y::S):=by simp
  rw [e2,swp_split (P++Y') (M++X') S x y (by simp;omega) (by simp;omega)]
  simp
def ltE (ks:List KeyD) (a b:El):Prop:=cmpK ks a.l b.l<0∨(cmpK ks a.l b.l=0∧a.i<b.i)
def FormE (n:Nat) (fs:List Bool) (e:El):Prop:=FormL n fs e.l
theorem ltE_trans {ks:List KeyD} {n:Nat} {fs:List Bool} {a b c:El} (ha:FormE n fs a) (hb:FormE n fs b) (hc:FormE n fs c) (h1:ltE ks a b) (h2:ltE ks b c):ltE ks a c:=by
 have G:=cmpK_good ks n fs
 have t:=G.le _ _ _ ha hb hc
 have t2:=G.le _ _ _ hc hb ha
 have a1:=G.anti _ _ ha hb
 have a2:=G.anti _ _ hb hc
 have a3:=G.anti _ _ ha hc
 unfold ltE at*
 rcases h1 with h1|⟨h1,h1'⟩<;>rcases h2 with h2|⟨h2,h2'⟩
 ·left;exact G.lt ha hb hc h1 (by omega)
 ·left;exact G.lt ha hb hc h1 (by omega)
 ·have h3:=t (by omega) (by omega)
  by_cases h0:cmpK ks a.l c.l=0
  ·exfalso
   have t3:=G.le _ _ _ hc ha hb (by omega) (by omega)
   omega
  ·left;omega
 ·right
  have h3:=t (by omega) (by omega)
  have h4:=t2 (by omega) (by omega)
  exact ⟨by omega,by omega⟩
theorem ltE_cmp {ks:List KeyD} {a b:El} (h:a.i<b.i):ltE ks b a↔cmpK ks b.l a.l<0:=by
 unfold ltE
 constructor
 ·rintro (h1|⟨_,h1⟩)
  ·exact h1
  ·omega
 ·exact .inl
theorem ltE_not {ks:List KeyD} {n:Nat} {fs:List Bool} {a b:El} (ha:FormE n fs a) (hb:FormE n fs b) (h:a.i<b.i):¬ltE ks b a↔ltE ks a b:=by
 have:=(cmpK_good ks n fs).anti _ _ ha hb
 unfold ltE
 omega
theorem wrapN (n:Nat) (h:n≤1000000000):IntKind.i64.wrap (n:Int)=(n:Int):=by simp only [IntKind.wrap_i64];omega
theorem part_at {α:Type} (l:List α) (n:Nat) (h:n≤l.length):∃l1 l2,l=l1++l2∧l1.length=n∧l2.length=l.length-n:=
 ⟨l.take n,l.drop n,(List.take_append_drop n l).symm,by rw [List.length_take];omega,List.length_drop⟩
set_option maxHeartbeats 8000000 in
theorem rotate_any (cmp:Value) (w0 w:World) (B cap:Nat) (P X Y S:List El) (a m b N:Nat) (hl:(P++X++Y++S).length=N) (ha:a=P.length) (hm:m=a+X.length) (hb:b=m+Y.length) (hX:0<X.length) (hY:0<Y.length)
  (hN:N≤1000000) (hc:N≤cap) (hc2:cap≤maxLen) (h:SortSt w0 w B (P++X++Y++S)):
  Calls Tryz.prog 192 #[.slice (some ⟨B,0,none⟩) N cap,.int .i64 a,.int .i64 m,.int .i64 b,cmp] w (SortPost w0 B (P++Y++X++S)):=by
 obtain ⟨R,hR⟩:∃R,P++Y++X++S=R:=⟨_,rfl⟩
 rw [hR]
 have HS:=hid h;have HR:=hid hR
 have HL:Hid (R.length=N):=by unfold Hid;rw [←hR,←hl];simp;omega
 have HA:=hid ha;have HM:=hid hm;have HB:=hid hb
 have hmb:m+Y.length≤N:=by rw [←hl];simp;omega
 have i1:((m:Int)-(a:Int))=(X.length:Int):=by omega
 have i2:((b:Int)-(m:Int))=(Y.length:Int):=by omega
 have i3:=wrapN X.length (by omega)
 have i4:=wrapN Y.length (by omega)
 have SW:=hid (fun W T a b n (hl:T.length=N) (h1:a+n≤N) (h2:b+n≤N) (h:SortSt w0 W B T)=>swapRange_any cmp w0 W B cap T a b n N hl hN hc hc2 h1 h2 h)
 clear h hl hR ha hm hb
 go_enter Tryz.func192,Tryz.ntmps192
 go_wp2
 go_loopw [10,11] (fun iv jv wr=>∃(i j:Nat) (P' X' Y' S':List El),iv= .int .i64 (i:Int)∧jv= .int .i64 (j:Int)∧0<i∧0<j∧X'.length=i∧Y'.length=j∧m=P'.length+i∧m+j≤N∧P'++Y'++X'++S'=R∧SortSt w0 wr B (P'++X'++Y'++S')) (fun iv jv _=>(intOf iv).toNat+(intOf jv).toNat)
 case atStart=>exact ⟨_,_,P,X,Y,S,rfl,rfl,hX,hY,rfl,rfl,by have:=HA.out;have:=HM.out;omega,hmb,HR.out,HS.out⟩
 case round=>
  obtain ⟨i,j,P',X',Y',S',rfl,rfl,hi,hj,hX',hY',hm',hmj,hr,hs⟩:=hrel
  obtain ⟨d,hd⟩:∃d,d=P'.length:=⟨_,rfl⟩
  have d0:((m:Int)-(i:Int))=(d:Int):=by omega
  have d1:=wrapN d (by omega)
  have F:=hid (show d=P'.length∧X'.length=i∧Y'.length=j∧m=d+i∧m+j≤N∧0<i∧0<j from ⟨hd,hX',hY',by omega,hmj,hi,hj⟩)
  have hst:=hid hs;have hr':=hid hr
  have dN:m+j≤N:=hmj
  clear hs hr hX' hY' hm' hmj hd hi hj
  rcases Nat.lt_trichotomy i j with hij|hij|hij
  ·obtain ⟨Y1,Y2,rfl,h1,h2⟩:=part_at Y' (j-i) (by have:=F.out;omega)
   obtain ⟨g,hg⟩:∃g,g=m+j-i:=⟨_,rfl⟩
   obtain ⟨k,hk⟩:∃k,k=j-i:=⟨_,rfl⟩
   have F1:=hid (show g=m+j-i∧k=j-i∧Y1.length=j-i∧Y2.length=(Y1++Y2).length-(j-i) from ⟨hg,hk,h1,h2⟩)
   have p1:(i:Int)≠(j:Int):=by omega
   have p2:¬((j:Int)<(i:Int)):=by omega
   have p3:((m:Int)+(j:Int))=((m+j:Nat):Int):=by omega
   have p3':(((m+j:Nat):Int)-(i:Int))=(g:Int):=by omega
   have p4:((j:Int)-(i:Int))=(k:Int):=by omega
   have p5:=wrapN (m+j) (by omega)
   have p6:=wrapN g (by omega)
   have p7:=wrapN k (by omega)
   have hlen:(P'++X'++Y1++Y2++S').length=N:=by have:=HL.out;rw [←hr'.out] at this;rw [←this];simp;omega
   have es:swN (P'++X'++Y1++Y2++S') d g i=P'++Y2++Y1++X'++S':=swN_split i P' X' Y1 Y2 S' _ _ F.out.1 F.out.2.1 (by have:=F.out;have:=F1.out;omega) (by have:=F.out;have:=F1.out;omega)
   have hst2:SortSt w0 wr B (P'++X'++Y1++Y2++S'):=by have:=hst.out;simpa using this
   have C1:=hid (SW.out wr _ d g i hlen (by have:=F.out;omega) (by have:=F.out;omega) hst2)
   rw [es] at C1
   clear hst hst2 es h1 h2 hg hk hlen
   generalize m+j=mj at*
   go_wp2_with (go_at_call 231;go_loud ((with_reducible refine C1.out.mono ?_);rintro e w1 ⟨rfl,hs1⟩;have HS1:=hid hs1;clear hs1))
   go_roundw
   case rel=>exact ⟨i,k,P',Y2,Y1,X'++S',rfl,by go_num,by have:=F.out;omega,by have:=F.out;have:=F1.out;omega,by have:=F.out;have:=F1.out;omega,by have:=F.out;have:=F1.out;omega,by have:=F.out;omega,by have:=F.out;have:=F1.out;omega,by rw [←hr'.out];simp,by have:=HS1.out;simpa using this⟩
   case measure=>have:=F.out;have:=F1.out;simp [intOf];omega
  ·subst hij
   have hlen:(P'++X'++[]++Y'++S').length=N:=by have:=HL.out;rw [←hr'.out] at this;rw [←this];simp;omega
   have es:swN (P'++X'++[]++Y'++S') d m i=P'++Y'++[]++X'++S':=swN_split i P' X' [] Y' S' _ _ F.out.1 F.out.2.1 F.out.2.2.1 (by have:=F.out;simp;omega)
   have hst2:SortSt w0 wr B (P'++X'++[]++Y'++S'):=by have:=hst.out;simpa using this
   have C1:=hid (SW.out wr _ d m i hlen (by have:=F.out;omega) (by have:=F.out;omega) hst2)
   rw [es] at C1
   clear hst hst2 es hlen
   go_wp2_with (go_at_call 231;go_loud ((with_reducible refine C1.out.mono ?_);rintro e w1 ⟨rfl,hs1⟩;have HS1:=hid hs1;clear hs1))
   go_end0
   exact ⟨rfl,by have:=HS1.out;rw [←hr'.out];simpa using this⟩
  ·obtain ⟨X1,X2,rfl,h1,h2⟩:=part_at X' j (by have:=F.out;omega)
   obtain ⟨k,hk⟩:∃k,k=i-j:=⟨_,rfl⟩
   have F1:=hid (show k=i-j∧X1.length=j∧X2.length=(X1++X2).length-j from ⟨hk,h1,h2⟩)
   have p1:(i:Int)≠(j:Int):=by omega
   have p2:(j:Int)<(i:Int):=by omega
   have p4:((i:Int)-(j:Int))=(k:Int):=by omega
   have p7:=wrapN k (by omega)
   have hlen:(P'++X1++X2++Y'++S').length=N:=by have:=HL.out;rw [←hr'.out] at this;rw [←this];simp;omega
   have es:swN (P'++X1++X2++Y'++S') d m j=P'++Y'++X2++X1++S':=swN_split j P' X1 X2 Y' S' _ _ F.out.1 h1 F.out.2.2.1 (by have:=F.out;omega)
   have hst2:SortSt w0 wr B (P'++X1++X2++Y'++S'):=by have:=hst.out;simpa using this
   have C1:=hid (SW.out wr _ d m j hlen (by have:=F.out;omega) (by have:=F.out;omega) hst2)
   rw [es] at C1
   clear hst hst2 es hlen h1 h2 hk
   go_wp2_with (go_at_call 231;go_loud ((with_reducible refine C1.out.mono ?_);rintro e w1 ⟨rfl,hs1⟩;have HS1:=hid hs1;clear hs1))
   go_roundw
   case rel=>exact ⟨k,j,P'++Y',X2,X1,S',by go_num,rfl,by have:=F1.out;omega,by have:=F.out;omega,by have:=F.out;have:=F1.out;omega,F1.out.2.1,by have:=F.out;have:=F1.out;simp;omega,by have:=F.out;have:=F1.out;omega,by rw [←hr'.out];simp,by have:=HS1.out;simpa using this⟩
   case measure=>have:=F.out;have:=F1.out;simp [intOf];omega
structure CmpOk (w0:World) (B:Nat) (q:QryV) (ks:List KeyD) (n:Nat) (fs:List Bool) (T:List El):Prop where
 ord:SlS (fun b=>b≠B) w0 q.ord ks.length 3 (ks.flatMap KeyD.cells)
 few:ks.length≤1000000
 el:∀e∈T,ElIn w0 B e∧FormE n fs e
theorem CmpOk.sub {w0:World} {B:Nat} {q:QryV} {ks:List KeyD} {n:Nat} {fs:List Bool} {T T':List El} (h:CmpOk w0 B q ks n fs T) (hs:∀e∈T',e∈T):CmpOk w0 B q ks n fs T':=⟨h.ord,h.few,fun e he=>h.el e (hs e he)⟩
def sortV (q:QryV):Value:= .func (.func 25) #[.agg q.cells] #[]
theorem cmp_now {w0 w:World} {B:Nat} {q:QryV} {ks:List KeyD} {n:Nat} {fs:List Bool} {T T':List El} (h:CmpOk w0 B q ks n fs T) (hs:SortSt w0 w B T') {e f:El} (he:e∈T) (hf:f∈T) (W:World) (hb:Below w.heap.size w W):
  Calls Tryz.prog 25 #[.agg q.cells,.agg e.v.cells,.agg f.v.cells] W fun en w'=>en= .returned (.int .i64 (cmpK ks e.l f.l))∧Below W.heap.size W w':=by
 have hs':=hs.step hb
 refine compareL_any q e.v f.v ks e.l f.l W ?_ h.few ((h.el e he).1.now hs') ((h.el f hf).1.now hs')
 exact (SlS.keep (T:=fun _=>True) h.ord (fun _ _=>trivial) (fun b hb hl=>hs'.gr.block b hl (fun he=>hb (Option.some.inj he)))).sl
theorem perm_mid {α:Type} (A B:List α) (y:α):(A++y::B).Perm (A++B++[y]):=by
 rw [List.append_assoc]
 exact List.Perm.append_left A (List.perm_append_comm (l₁:=[y]) (l₂:=B))
theorem sorted_mid {ks:List KeyD} {n:Nat} {fs:List Bool} {A B:List El} {y:El} (hf:∀e∈A,FormE n fs e) (hy:FormE n fs y) (hs:(A++B).Pairwise (ltE ks)) (hA:∀A' z,A=A'++[z]→ltE ks z y) (hB:∀m∈B,ltE ks y m):(A++y::B).Pairwise (ltE ks):=by
 rw [List.pairwise_append] at hs ⊢
 obtain ⟨h1,h2,h3⟩:=hs
 have hAy:∀x∈A,ltE ks x y:=by
  intro x hx
  cases hA0:A.length with
  |zero=>rw [List.eq_nil_of_length_eq_zero hA0] at hx;cases hx
  |succ k=>
   obtain ⟨A',z,rfl,_⟩:=snoc_of hA0
   have hz:=hA A' z rfl
   rcases List.mem_append.1 hx with hx'|hx'
   ·rw [List.pairwise_append] at h1
    exact ltE_trans (hf x hx) (hf z (by simp)) hy (h1.2.2 x hx' z (by simp)) hz
   ·rw [List.mem_singleton] at hx'
    rw [hx'];exact hz
 refine ⟨h1,List.pairwise_cons.2 ⟨hB,h2⟩,fun x hx m hm=> ?_⟩
 rcases List.mem_cons.1 hm with rfl|hm'
 ·exact hAy x hx
 ·exact h3 x hx m hm'
def InsPost (w0:World) (B:Nat) (ks:List KeyD) (P Q S:List El) (e:Ending) (w':World):Prop:=e= .returned (.tuple #[])∧∃M,M.Perm Q∧M.Pairwise (ltE ks)∧SortSt w0 w' B (P++M++S)
set_option maxHeartbeats 8000000 in
theorem insertion_none (q:QryV) (ks:List KeyD) (w0 w:World) (B cap:Nat) (P S:List El) (a N:Nat) (hN:a≤1000000) (h:SortSt w0 w B (P++[]++S)):
  Calls Tryz.prog 128 #[.slice (some ⟨B,0,none⟩) N cap,.int .i64 a,.int .i64 a,sortV q] w (InsPost w0 B ks P [] S):=by
 have HS:=hid h
 unfold sortV
 clear h
 have v1:((a:Int)+1)=((a+1:Nat):Int):=by omega
 have v2:=wrapN (a+1) (by omega)
 have v3:¬(((a+1:Nat):Int)<(a:Int)):=by omega
 generalize a+1=a1 at*
 go_enter Tryz.func128,Tryz.ntmps128
 go_wp2
 refine wp_loop_rounds 1 ?_
 rw [rounds_succ]
 go_wp2
 go_end0
 exact ⟨rfl,[],List.Perm.refl _,List.Pairwise.nil,HS.out⟩
set_option maxHeartbeats 8000000 in
theorem insertion_some (q:QryV) (ks:List KeyD) (n:Nat) (fs:List Bool) (w0 w:World) (B cap:Nat) (P Q S:List El) (a b N:Nat) (hl:(P++Q++S).length=N) (ha:a=P.length) (hb:b=a+Q.length) (hQ:0<Q.length)
  (hN:N≤1000000) (hc:N≤cap) (hc2:cap≤maxLen) (hi:Q.Pairwise (fun x y=>x.i<y.i)) (hok:CmpOk w0 B q ks n fs Q) (h:SortSt w0 w B (P++Q++S)):
  Calls Tryz.prog 128 #[.slice (some ⟨B,0,none⟩) N cap,.int .i64 a,.int .i64 b,sortV q] w (InsPost w0 B ks P Q S):=by
 have F0:=hid (show a=P.length∧b=a+Q.length∧b≤N from ⟨ha,hb,by rw [←hl];simp;omega⟩)
 have HI:=hid hi;have HOK:=hid hok;have HL:=hid hl
 have HS0:=hid h
 have v1:((a:Int)+1)=((a+1:Nat):Int):=by omega
 have v2:=wrapN (a+1) (by have:=F0.out;omega)
 unfold sortV
 obtain ⟨a1,ha1⟩:∃a1,a+1=a1:=⟨_,rfl⟩
 rw [ha1] at v1 v2
 have HA1:=hid ha1
 clear h ha hb hi hok hl ha1
 go_enter Tryz.func128,Tryz.ntmps128
 go_wp2
 go_loopw [8] (fun iv wr=>∃(i:Nat) (M R Q0:List El),iv= .int .i64 (i:Int)∧i=a+M.length∧0<M.length∧Q=Q0++R∧M.Perm Q0∧M.Pairwise (ltE ks)∧SortSt w0 wr B (P++M++R++S)) (fun iv _=>b-(intOf iv).toNat)
 case atStart=>
  cases Q with
  |nil=>simp at hQ
  |cons x Q'=>exact ⟨a1,[x],Q',[x],rfl,by have:=HA1.out;simp;omega,by simp,rfl,List.Perm.refl _,by simp,by simpa using HS0.out⟩
 case round=>
  obtain ⟨i,M,R,Q0,rfl,hi,hM,hQR,hp,hs,hst⟩:=hrel
  cases R with
  |nil=>
   have hib:i=b:=by have:=F0.out;have:=hp.length_eq;rw [hQR] at*;simp at*;omega
   have HST:=hid hst;have HP:=hid hp;have HPS:=hid hs;have HQR:=hid hQR
   clear hst hp hs hQR hi
   subst hib
   go_wp2
   go_end0
   refine ⟨rfl,M,by have:=HP.out;rw [HQR.out];simpa using this,HPS.out,by have:=HST.out;simpa using this⟩
  |cons y R'=>
   have hlen:a+M.length+1≤b:=by have:=F0.out;have:=hp.length_eq;rw [hQR] at*;simp at*;omega
   have hbN:b≤N:=F0.out.2.2
   have hyM:∀m∈M,m.i<y.i:=by
    intro m hm
    have:=HI.out
    rw [hQR,List.pairwise_append] at this
    exact this.2.2 m (hp.mem_iff.1 hm) y (by simp)
   have hyQ:y∈Q:=by rw [hQR];simp
   have hMQ:∀m∈M,m∈Q:=by
    intro m hm
    rw [hQR]
    exact List.mem_append_left _ (hp.mem_iff.1 hm)
   have hib:((i:Int)<(b:Int)):=by omega
   have F1:=hid (show i=a+M.length∧0<M.length∧Q=Q0++y::R'∧M.Perm Q0∧M.Pairwise (ltE ks)∧(∀m∈M,m.i<y.i)∧y∈Q∧(∀m∈M,m∈Q)∧a+M.length+1≤b∧b≤N from ⟨hi,hM,hQR,hp,hs,hyM,hyQ,hMQ,hlen,hbN⟩)
   have HST:=hid hst
   clear hi hM hQR hp hs hst hlen hyM hyQ hMQ
   go_wp2
   go_loopw [9] (fun jv wr=>∃(j:Nat) (M1 M2:List El),jv= .int .i64 (j:Int)∧j=a+M1.length∧M=M1++M2∧(∀m∈M2,ltE ks y m)∧SortSt w0 wr B (P++M1++y::(M2++R'++S))) (fun jv _=>(intOf jv).toNat)
   case atStart=>exact ⟨i,M,[],rfl,F1.out.1,by simp,by simp,by have:=HST.out;simpa using this⟩
   case round=>
    obtain ⟨j,M1,M2,rfl,hj,hM12,hy2,hst⟩:=hrel
    cases hM1:M1.length with
    |zero=>
     have e0:=List.eq_nil_of_length_eq_zero hM1
     subst e0
     have hja:decide (a<j)=false:=by simp at hj ⊢;omega
     have HST2:=hid hst;have HM12:=hid hM12;have HY2:=hid hy2
     clear hst hM12 hy2 hj hM1
     go_wp2
     refine wp_region_plus (by kernel_rfl) (by kernel_rfl) ?_
     repeat (first|go_big_quiet_skip|(go_big_quiet_want;go_big_quiet_op;first|go_big_quiet_on|go_big_quiet_call ((fail))))
     refine wpQuiet_nil ?_
     rintro _ ⟨xq,rfl⟩
     have HST3:=hid (HST2.out.step (World.plus_below _ xq))
     have hM2:M=M2:=by have:=HM12.out;simpa using this
     subst hM2
     have v3:((i:Int)+1)=((i+1:Nat):Int):=by omega
     have v4:=wrapN (i+1) (by have:=F1.out;omega)
     have HI1:=hid (show i+1=i+1 from rfl)
     obtain ⟨i1,hi1⟩:∃i1,i+1=i1:=⟨_,rfl⟩
     rw [hi1] at v3 v4
     have HI1:=hid hi1
     clear hi1
     go_wp2
     go_roundw
     case rel=>exact ⟨i1,y::M,R',Q0++[y],rfl,by have:=F1.out;have:=HI1.out;simp;omega,by simp,by rw [F1.out.2.2.1];simp,(perm_mid [] M y).trans (List.Perm.append_right _ F1.out.2.2.2.1),List.pairwise_cons.2 ⟨HY2.out,F1.out.2.2.2.2.1⟩,by have:=HST3.out;simpa using this⟩
     case measure=>have:=F1.out;have:=HI1.out;simp [intOf];omega
    |succ k=>
     obtain ⟨M1',z,rfl,hk⟩:=snoc_of hM1
     obtain ⟨jm,hjm⟩:∃jm,jm+1=j:=⟨a+k,by simp at hj;omega⟩
     have hT:((P++M1')++z::y::(M2++R'++S))=P++(M1'++[z])++y::(M2++R'++S):=by simp
     have hst':=hst
     rw [←hT] at hst'
     have hjm2:jm=(P++M1').length:=by have:=F0.out;simp at hj ⊢;omega
     have hlt:j<N:=by have:=F1.out;have e:=congrArg List.length hM12;simp at e hj;omega
     have hx:((P++M1')++z::y::(M2++R'++S))[jm]? =some z:=by rw [hjm2];exact get_mid _ _ _
     have hy:((P++M1')++z::y::(M2++R'++S))[j]? =some y:=by
      have e:((P++M1')++z::y::(M2++R'++S))=(P++M1'++[z])++y::(M2++R'++S):=by simp
      rw [e,←hjm,hjm2,show (P++M1').length+1=(P++M1'++[z]).length by simp;omega]
      exact get_mid _ _ _
     obtain ⟨x0,x1,x2,x3⟩:=hst'.at_.cell hx
     obtain ⟨y0,y1,y2,y3⟩:=hst'.at_.cell hy
     have hzM:z∈M:=by rw [hM12];simp
     have hza:decide (a<j)=true:=by simp at hj ⊢;omega
     have q0:((j:Int)-1)=(jm:Int):=by omega
     have q1:(0:Int)≤(jm:Int):=by omega
     have q2:(jm:Int)<(N:Int):=by omega
     have q3:(0:Int)≤(j:Int):=by omega
     have q4:(j:Int)<(N:Int):=by omega
     have w1:=wrapN jm (by omega)
     have w2:=wrapN j (by omega)
     have CMP:=hid (fun W (hb:Below wr.heap.size wr W)=>cmp_now HOK.out hst' F1.out.2.2.2.2.2.2.1 (F1.out.2.2.2.2.2.2.2.1 z hzM) W hb)
     have hlt2:=ltE_cmp (ks:=ks) (F1.out.2.2.2.2.2.1 z hzM)
     have hnt:=ltE_not (ks:=ks) (HOK.out.el z (F1.out.2.2.2.2.2.2.2.1 z hzM)).2 (HOK.out.el y F1.out.2.2.2.2.2.2.1).2 (F1.out.2.2.2.2.2.1 z hzM)
     have HLT:=hid hlt2;have HNT:=hid hnt
     have hst2:=hid hst';have HM12:=hid hM12;have HY2:=hid hy2
     have FJ:=hid (show jm+1=j∧jm=(P++M1').length∧j=a+(M1'++[z]).length from ⟨hjm,hjm2,hj⟩)
     have HTL:Hid (((P++M1')++z::y::(M2++R'++S)).length=N):=by
      have e:=HL.out
      have e2:=F1.out.2.2.1
      have e3:=F1.out.2.2.2.1.length_eq
      have e4:=congrArg List.length hM12
      rw [e2] at e
      unfold Hid
      simp at e e3 e4 ⊢
      omega
     clear hlt2 hnt hst hst' hM12 hy2 hjm hjm2 hj hM1 hk hT
     generalize cmpK ks y.l z.l=c at*
     have p0:=World.plus_cell x0;have p1:=World.plus_cell x1;have p2:=World.plus_cell x2;have p3:=World.plus_cell x3
     have p4:=World.plus_cell y0;have p5:=World.plus_cell y1;have p6:=World.plus_cell y2;have p7:=World.plus_cell y3
     go_wp2
     refine wp_region_plus (by kernel_rfl) (by kernel_rfl) ?_
     repeat (first|go_big_quiet_skip|(go_big_quiet_want;go_big_quiet_op;first|go_big_quiet_on|go_big_quiet_call (((go_at_call 25;exact Calls.plus_of (CMP.out _ (World.plus_below _ _)))))))
     refine wpQuiet_nil ?_
     rintro _ ⟨xq,rfl⟩
     clear p0 p1 p2 p3 p4 p5 p6 p7
     have HST3:=hid (hst2.out.step (World.plus_below _ xq))
     by_cases hc0:c<0
     ·have h0:=World.plus_cell x0 xq;have h1:=World.plus_cell x1 xq;have h2:=World.plus_cell x2 xq;have h3:=World.plus_cell x3 xq
      have k0:=World.plus_cell y0 xq;have k1:=World.plus_cell y1 xq;have k2:=World.plus_cell y2 xq;have k3:=World.plus_cell y3 xq
      clear x0 x1 x2 x3 y0 y1 y2 y3 hst2
      generalize World.plus wr xq=wr2 at*
      have HXY:=hid (And.intro hx hy)
      clear hx hy
      obtain ⟨cur,hcur,hsz⟩:=HST3.out.at_.row
      have HC:=hid hcur
      have HSZ:Hid (N*4≤cur.size):=by have:=HTL.out;rw [this] at hsz;exact hsz
      clear hcur hsz
      go_wp2
      have hS0:(fun w':World=>(w'.cell? ⟨B,jm*4,none⟩=some (.int .i64 z.v.st)∧w'.cell? ⟨B,jm*4+1,none⟩=some (.int .i64 z.v.tm)∧w'.cell? ⟨B,jm*4+2,none⟩=some (.slice z.v.ka z.v.kn z.v.kc)∧w'.cell? ⟨B,jm*4+3,none⟩=some (.slice z.v.na z.v.nn z.v.nc))∧(w'.cell? ⟨B,j*4,none⟩=some (.int .i64 y.v.st)∧w'.cell? ⟨B,j*4+1,none⟩=some (.int .i64 y.v.tm)∧w'.cell? ⟨B,j*4+2,none⟩=some (.slice y.v.ka y.v.kn y.v.kc)∧w'.cell? ⟨B,j*4+3,none⟩=some (.slice y.v.na y.v.nn y.v.nc))) wr2.drew:=⟨⟨h0,h1,h2,h3⟩,k0,k1,k2,k3⟩
      refine wp_region_some (fun w':World=>(w'.cell? ⟨B,jm*4,none⟩=some (.int .i64 z.v.st)∧w'.cell? ⟨B,jm*4+1,none⟩=some (.int .i64 z.v.tm)∧w'.cell? ⟨B,jm*4+2,none⟩=some (.slice z.v.ka z.v.kn z.v.kc)∧w'.cell? ⟨B,jm*4+3,none⟩=some (.slice z.v.na z.v.nn z.v.nc))∧(w'.cell? ⟨B,j*4,none⟩=some (.int .i64 y.v.st)∧w'.cell? ⟨B,j*4+1,none⟩=some (.int .i64 y.v.tm)∧w'.cell? ⟨B,j*4+2,none⟩=some (.slice y.v.ka y.v.kn y.v.kc)∧w'.cell? ⟨B,j*4+3,none⟩=some (.slice y.v.na y.v.nn y.v.nc))) [2,3,4,14,15,16,17] (by kernel_rfl) ?_
      (refine wpMix_free (i:=2) (v:= ?_) rfl (by kernel_rfl) (fun _ _ _ h=>h) (Or.inl ⟨by rfl,?_⟩) ?_;rotate_left 1;(focus (intro w hSw;go_simp;try (with_reducible rfl)));(try simp only [Act.put,List.setIfInBounds_toArray,List.set_cons_zero,List.set_cons_succ]))
      (refine wpMix_free (i:=3) (v:= ?_) rfl (by kernel_rfl) (fun _ _ _ h=>h) (Or.inl ⟨by rfl,?_⟩) ?_;rotate_left 1;(focus (intro w hSw;go_simp;try (with_reducible rfl)));(try simp only [Act.put,List.setIfInBounds_toArray,List.set_cons_zero,List.set_cons_succ]))
      (refine wpMix_free (i:=4) (v:= ?_) rfl (by kernel_rfl) (fun _ _ _ h=>h) (Or.inl ⟨by rfl,?_⟩) ?_;rotate_left 1;(focus (intro w hSw;go_simp;try (with_reducible rfl)));(try simp only [Act.put,List.setIfInBounds_toArray,List.set_cons_zero,List.set_cons_succ]))
      refine Tk 0 hS0 ?_
      refine Tk 1 hS0 ?_
      refine Tk 5 hS0 ?_
      refine Tk 6 hS0 ?_
      refine Tk 7 hS0 ?_
      refine Tk 8 hS0 ?_
      refine Tk 9 hS0 ?_
      refine Tk 10 hS0 ?_
      refine Tk 11 hS0 ?_
      refine Tk 12 hS0 ?_
      refine Tk 13 hS0 ?_
      refine wpMix_rest [14,15,16,17] (by kernel_rfl) ?_
      simp only [opsAt,Ol]
      clear hS0 h0 h1 h2 h3 k0 k1 k2 k3
      go_wp2_with (first
       |(refine wpList_store_at rfl _ _ _ rfl B (j*4) z.v.cells rfl rfl _ cur HC.out (by exact linfoS) (by have:=HSZ.out;rw [lncells_size];omega) (lncells_one _) ?_;intro X1 hX1 gX1 zX1;have s1:=hid (SortSt.put HST3.out.drew HC.out (by have:=HTL.out;omega) z hX1 gX1);have HC1:=hid hX1;clear hX1 gX1 zX1)
       |(refine wpList_store_at rfl _ _ _ rfl B (jm*4) y.v.cells rfl rfl _ _ HC1.out (by exact linfoS) (by have:=HSZ.out;rw [lncells_size,putAt_size _ _ _ (by rw [lncells_size];omega)];omega) (lncells_one _) ?_;intro X2 hX2 gX2 zX2;have s2:=hid (SortSt.put s1.out HC1.out (by have:=HTL.out;rw [List.length_set];omega) y hX2 gX2);clear hX2 gX2 zX2))
      have es:(((P++M1')++z::y::(M2++R'++S)).set j z).set jm y=(P++M1')++y::z::(M2++R'++S):=by
       have h:=swp_next (P++M1') (M2++R'++S) z y FJ.out.2.1 (by have:=FJ.out;omega:j=(P++M1').length+1)
       unfold swp at h
       rw [HXY.out.1,HXY.out.2] at h
       exact h
      have HS4:=hid s2.out
      rw [es] at HS4
      have hyz:ltE ks y z:=HLT.out.2 hc0
      go_roundw
      case rel=>exact ⟨jm,M1',z::M2,rfl,by have:=FJ.out;simp at this;omega,by rw [HM12.out];simp,by intro m hm;rcases List.mem_cons.1 hm with rfl|hm';exact hyz;exact HY2.out m hm',by have:=HS4.out;simpa using this⟩
      case measure=>have:=FJ.out;simp [intOf];omega
     ·have hzy:ltE ks z y:=HNT.out.1 (fun h=>hc0 (HLT.out.1 h))
      have hcd:decide (c<0)=false:=by simpa using hc0
      clear x0 x1 x2 x3 y0 y1 y2 y3 hx hy hst2
      generalize World.plus wr xq=wr2 at*
      have v3:((i:Int)+1)=((i+1:Nat):Int):=by omega
      have v4:=wrapN (i+1) (by have:=F1.out;omega)
      obtain ⟨i1,hi1⟩:∃i1,i+1=i1:=⟨_,rfl⟩
      rw [hi1] at v3 v4
      have HI1:=hid hi1
      clear hi1
      go_wp2
      go_roundw
      case rel=>
       have hml:=congrArg List.length HM12.out
       refine ⟨i1,(M1'++[z])++y::M2,R',Q0++[y],rfl,by have:=F1.out;have:=HI1.out;simp at hml ⊢;omega,by simp;omega,by rw [F1.out.2.2.1];simp,(perm_mid _ M2 y).trans (List.Perm.append_right _ (by have:=F1.out.2.2.2.1;rw [HM12.out] at this;exact this)),?_,by have:=HST3.out;simpa using this⟩
       refine sorted_mid (n:=n) (fs:=fs) (fun e he=>(HOK.out.el e (F1.out.2.2.2.2.2.2.2.1 e (by rw [HM12.out];exact List.mem_append_left _ he))).2) (HOK.out.el y F1.out.2.2.2.2.2.2.1).2 (by have:=F1.out.2.2.2.2.1;rw [HM12.out] at this;exact this) (fun A' z' e=> ?_) HY2.out
       have:=(List.append_inj' e rfl).2
       simp at this
       rw [←this];exact hzy
      case measure=>have:=F1.out;have:=HI1.out;simp [intOf];omega
def MergePost (w0:World) (B:Nat) (ks:List KeyD) (P A C S:List El) (e:Ending) (w':World):Prop:=e= .returned (.tuple #[])∧∃M,M.Perm (A++C)∧M.Pairwise (ltE ks)∧SortSt w0 w' B (P++M++S)
theorem half_at {α:Type} (D:List α) (h:0<D.length):∃D1 y D2,D=D1++y::D2∧D1.length=D.length/2:=by
 obtain ⟨D1,D2,h1,h2,h3⟩:=part_at D (D.length/2) (Nat.div_le_self _ _)
 cases D2 with
 |nil=>simp at h3;omega
 |cons y D2=>exact ⟨D1,y,D2,h1,h2⟩
theorem sorted_mid2 {ks:List KeyD} {n:Nat} {fs:List Bool} {A B:List El} {y:El} (hf:∀e∈A++B,FormE n fs e) (hy:FormE n fs y) (hs:(A++B).Pairwise (ltE ks)) (hA:∀A' z,A=A'++[z]→ltE ks z y) (hB:∀z B',B=z::B'→ltE ks y z):(A++y::B).Pairwise (ltE ks):=by
 refine sorted_mid (fun e he=>hf e (List.mem_append_left _ he)) hy hs hA ?_
 cases B with
 |nil=>simp
 |cons z B'=>
  have hz:=hB z B' rfl
  intro m hm
  rcases List.mem_cons.1 hm with rfl|hm'
  ·exact hz
  ·rw [List.pairwise_append] at hs
   exact ltE_trans hy (hf z (by simp)) (hf m (by simp [hm'])) hz ((List.pairwise_cons.1 hs.2.1).1 m hm')
theorem wrapU (n:Nat) (h:n≤1000000000):IntKind.u64.wrap (n:Int)=(n:Int):=by simp only [IntKind.wrap_u64];omega
set_option maxHeartbeats 8000000 in
theorem merge_left (q:QryV) (ks:List KeyD) (n:Nat) (fs:List Bool) (w0 w:World) (B cap:Nat) (P C S:List El) (x:El) (a m b N:Nat) (hl:(P++[x]++C++S).length=N) (ha:a=P.length) (hm:m=a+1) (hb:b=m+C.length)
  (hN:N≤1000000) (hc:N≤cap) (hc2:cap≤maxLen) (hi:∀y∈C,x.i<y.i) (hs:C.Pairwise (ltE ks)) (hok:CmpOk w0 B q ks n fs ([x]++C)) (h:SortSt w0 w B (P++[x]++C++S)):
  Calls Tryz.prog 129 #[.slice (some ⟨B,0,none⟩) N cap,.int .i64 a,.int .i64 m,.int .i64 b,sortV q] w (MergePost w0 B ks P [x] C S):=by
 have F0:=hid (show a=P.length∧m=a+1∧b=m+C.length∧b≤N from ⟨ha,hm,hb,by rw [←hl];simp;omega⟩)
 have HI:=hid hi;have HOK:=hid hok;have HL:=hid hl;have HP:=hid hs
 have HS0:=hid h
 have v1:((m:Int)-(a:Int))=1:=by omega
 have hbN:b≤N:=F0.out.2.2.2
 unfold sortV
 clear h ha hb hi hok hl hm hs
 go_enter Tryz.func129,Tryz.ntmps129
 go_wp2
 go_loopw [10,11] (fun iv jv wr=>∃(i j:Nat) (C1 D E:List El),iv= .int .i64 (i:Int)∧jv= .int .i64 (j:Int)∧i=m+C1.length∧j=i+D.length∧C=C1++D++E∧(∀C' y,C1=C'++[y]→ltE ks y x)∧(∀y E',E=y::E'→ltE ks x y)∧SortSt w0 wr B (P++[x]++C++S)) (fun iv jv _=>(intOf jv).toNat-(intOf iv).toNat)
 case atStart=>exact ⟨m,b,[],C,[],rfl,rfl,by simp,F0.out.2.2.1,by simp,by simp,by simp,HS0.out⟩
 case round=>
  obtain ⟨i,j,C1,D,E,rfl,rfl,hi,hj,hC,h1,h2,hst⟩:=hrel
  have hjb:j≤b:=by have:=F0.out;have:=congrArg List.length hC;simp at this;omega
  cases hD:D.length with
  |zero=>
   obtain rfl:=List.eq_nil_of_length_eq_zero hD
   have hij:decide (i<j)=false:=by simp;omega
   have hME:(C1++x::E).Perm ([x]++C):=by
    rw [hC]
    simp only [List.append_nil]
    exact (perm_mid C1 E x).trans List.perm_append_comm
   have hMS:(C1++x::E).Pairwise (ltE ks):=by
    have hs:=HP.out
    rw [hC,List.append_nil] at hs
    exact sorted_mid2 (n:=n) (fs:=fs) (fun e he=>(HOK.out.el e (by rw [hC];simp at he ⊢;exact .inr he)).2) (HOK.out.el x (by simp)).2 hs h1 h2
   have FM:=hid (And.intro hME hMS)
   obtain ⟨im,him⟩:∃im,im=a+C1.length:=⟨_,rfl⟩
   have e1:((i:Int)-1)=(im:Int):=by have:=F0.out;omega
   have e2:=wrapN im (by have:=F0.out;have:=congrArg List.length hC;simp at this;omega)
   have hT:SortSt w0 wr B (P++[]++x::(C1++E++S)):=by have:=hst;rw [hC] at this;simpa using this
   have HT:=hid hT
   have FI:=hid (show im=a+C1.length∧C=C1++[]++E from ⟨him,hC⟩)
   have hiN:im<N:=by have:=F0.out;have:=congrArg List.length hC;simp at this;omega
   clear hi hj hC h1 h2 hst hT hME hMS hD him
   go_wp2
   go_loopw [13] (fun kv wr=>∃(k:Nat) (C2 C3:List El),kv= .int .i64 (k:Int)∧k=a+C2.length∧C1=C2++C3∧SortSt w0 wr B (P++C2++x::(C3++E++S))) (fun kv _=>im-(intOf kv).toNat)
   case atStart=>exact ⟨a,[],C1,rfl,by simp,by simp,HT.out⟩
   case round=>
    obtain ⟨k,C2,C3,rfl,hk,hC1,hst⟩:=hrel
    cases C3 with
    |nil=>
     have hki:decide (k<im)=false:=by have:=FI.out;rw [hC1] at this;simp at this ⊢;omega
     have HST:=hid hst;have HC1:=hid hC1
     clear hst hC1 hk
     go_wp2
     go_end0
     exact ⟨rfl,_,FM.out.1,FM.out.2,by have:=HST.out;rw [HC1.out];simpa using this⟩
    |cons y C3'=>
     have hki:decide (k<im)=true:=by have:=FI.out;rw [hC1] at this;simp at this ⊢;omega
     obtain ⟨k1,hk1⟩:∃k1,k1=k+1:=⟨_,rfl⟩
     have hk1N:k1<N:=by have:=of_decide_eq_true hki;omega
     have v2:((k:Int)+1)=(k1:Int):=by omega
     have v3:=wrapN k1 (by omega)
     have v4:=wrapN k (by omega)
     have q1:(0:Int)≤(k:Int):=by omega
     have q2:(k:Int)<(N:Int):=by omega
     have q3:(0:Int)≤(k1:Int):=by omega
     have q4:(k1:Int)<(N:Int):=by omega
     have FK:=hid (show k=a+C2.length∧C1=C2++y::C3'∧k1=k+1 from ⟨hk,hC1,hk1⟩)
     obtain ⟨T,hTd⟩:∃T,T=(P++C2)++x::([]++y::(C3'++E++S)):=⟨_,rfl⟩
     have hst':SortSt w0 wr B T:=by rw [hTd];simpa using hst
     have hx:T[k]? =some x:=by rw [hTd,show k=(P++C2).length by have:=F0.out;simp;omega];exact get_mid _ _ _
     have hy:T[k1]? =some y:=by
      have e:T=(P++C2++[x])++y::(C3'++E++S):=by rw [hTd];simp
      rw [e,show k1=(P++C2++[x]).length by have:=F0.out;simp;omega];exact get_mid _ _ _
     have HTL:Hid (T.length=N):=by have:=HL.out;have e:=FI.out.2;rw [e,hC1] at this;unfold Hid;rw [hTd];simp at this ⊢;omega
     have HTD:=hid hTd
     clear hst hk hC1 hk1 hTd
     obtain ⟨h0,h1,h2,h3⟩:=hst'.at_.cell hx
     obtain ⟨k0,k1',k2,k3⟩:=hst'.at_.cell hy
     have HST3:=hid hst'
     obtain ⟨cur,hcur,hsz⟩:=hst'.at_.row
     have HC:=hid hcur
     have HSZ:Hid (N*4≤cur.size):=by have:=HTL.out;rw [this] at hsz;exact hsz
     have HXY:=hid (And.intro hx hy)
     clear hcur hsz hst' hx hy
     go_wp2
     have hS0:(fun w':World=>(w'.cell? ⟨B,k*4,none⟩=some (.int .i64 x.v.st)∧w'.cell? ⟨B,k*4+1,none⟩=some (.int .i64 x.v.tm)∧w'.cell? ⟨B,k*4+2,none⟩=some (.slice x.v.ka x.v.kn x.v.kc)∧w'.cell? ⟨B,k*4+3,none⟩=some (.slice x.v.na x.v.nn x.v.nc))∧(w'.cell? ⟨B,k1*4,none⟩=some (.int .i64 y.v.st)∧w'.cell? ⟨B,k1*4+1,none⟩=some (.int .i64 y.v.tm)∧w'.cell? ⟨B,k1*4+2,none⟩=some (.slice y.v.ka y.v.kn y.v.kc)∧w'.cell? ⟨B,k1*4+3,none⟩=some (.slice y.v.na y.v.nn y.v.nc))) wr.drew:=⟨⟨h0,h1,h2,h3⟩,k0,k1',k2,k3⟩
     refine wp_region_some (fun w':World=>(w'.cell? ⟨B,k*4,none⟩=some (.int .i64 x.v.st)∧w'.cell? ⟨B,k*4+1,none⟩=some (.int .i64 x.v.tm)∧w'.cell? ⟨B,k*4+2,none⟩=some (.slice x.v.ka x.v.kn x.v.kc)∧w'.cell? ⟨B,k*4+3,none⟩=some (.slice x.v.na x.v.nn x.v.nc))∧(w'.cell? ⟨B,k1*4,none⟩=some (.int .i64 y.v.st)∧w'.cell? ⟨B,k1*4+1,none⟩=some (.int .i64 y.v.tm)∧w'.cell? ⟨B,k1*4+2,none⟩=some (.slice y.v.ka y.v.kn y.v.kc)∧w'.cell? ⟨B,k1*4+3,none⟩=some (.slice y.v.na y.v.nn y.v.nc))) [2,3,4,14,15,16,17] (by kernel_rfl) ?_
     (refine wpMix_free (i:=2) (v:= ?_) rfl (by kernel_rfl) (fun _ _ _ h=>h) (Or.inl ⟨by rfl,?_⟩) ?_;rotate_left 1;(focus (intro w hSw;go_simp;try (with_reducible rfl)));(try simp only [Act.put,List.setIfInBounds_toArray,List.set_cons_zero,List.set_cons_succ]))
     (refine wpMix_free (i:=3) (v:= ?_) rfl (by kernel_rfl) (fun _ _ _ h=>h) (Or.inl ⟨by rfl,?_⟩) ?_;rotate_left 1;(focus (intro w hSw;go_simp;try (with_reducible rfl)));(try simp only [Act.put,List.setIfInBounds_toArray,List.set_cons_zero,List.set_cons_succ]))
     (refine wpMix_free (i:=4) (v:= ?_) rfl (by kernel_rfl) (fun _ _ _ h=>h) (Or.inl ⟨by rfl,?_⟩) ?_;rotate_left 1;(focus (intro w hSw;go_simp;try (with_reducible rfl)));(try simp only [Act.put,List.setIfInBounds_toArray,List.set_cons_zero,List.set_cons_succ]))
     refine Tk 0 hS0 ?_
     refine Tk 1 hS0 ?_
     refine Tk 5 hS0 ?_
     refine Tk 6 hS0 ?_
     refine Tk 7 hS0 ?_
     refine Tk 8 hS0 ?_
     refine Tk 9 hS0 ?_
     refine Tk 10 hS0 ?_
     refine Tk 11 hS0 ?_
     refine Tk 12 hS0 ?_
     refine Tk 13 hS0 ?_
     refine wpMix_rest [14,15,16,17] (by kernel_rfl) ?_
     simp only [opsAt,Ol]
     clear hS0 h0 h1 h2 h3 k0 k1' k2 k3
     go_wp2_with (first
      |(refine wpList_store_at rfl _ _ _ rfl B (k*4) y.v.cells rfl rfl _ cur HC.out (by exact linfoS) (by have:=HSZ.out;rw [lncells_size];omega) (lncells_one _) ?_;intro X1 hX1 gX1 zX1;have s1:=hid (SortSt.put HST3.out.drew HC.out (by have:=HTL.out;omega) y hX1 gX1);have HC1:=hid hX1;clear hX1 gX1 zX1)
      |(refine wpList_store_at rfl _ _ _ rfl B (k1*4) x.v.cells rfl rfl _ _ HC1.out (by exact linfoS) (by have:=HSZ.out;rw [lncells_size,putAt_size _ _ _ (by rw [lncells_size];omega)];omega) (lncells_one _) ?_;intro X2 hX2 gX2 zX2;have s2:=hid (SortSt.put s1.out HC1.out (by have:=HTL.out;rw [List.length_set];omega) x hX2 gX2);clear hX2 gX2 zX2))
     have es:(T.set k y).set k1 x=(P++C2)++y::([]++x::(C3'++E++S)):=by
      have h:=swp_split (P++C2) [] (C3'++E++S) x y (show k=(P++C2).length by have:=F0.out;have:=FK.out;simp;omega) (show k1=(P++C2).length+1+0 by have:=F0.out;have:=FK.out;simp;omega)
      rw [←HTD.out] at h
      unfold swp at h
      rw [HXY.out.1,HXY.out.2] at h
      exact h
     have HS4:=hid s2.out
     rw [es] at HS4
     go_roundw
     case rel=>exact ⟨k1,C2++[y],C3',rfl,by have:=FK.out;simp;omega,by rw [FK.out.2.1];simp,by have:=HS4.out;simpa using this⟩
     case measure=>have:=FK.out;have:=of_decide_eq_true hki;simp [intOf];omega
  |succ k=>
   obtain ⟨D1,y,D2,rfl,hd⟩:=half_at D (by omega)
   obtain ⟨g,hg⟩:∃g,g=i+D1.length:=⟨_,rfl⟩
   obtain ⟨ij,hij0⟩:∃ij,ij=i+j:=⟨_,rfl⟩
   have hij:decide (i<j)=true:=by simp;omega
   have v2:((i:Int)+(j:Int))=(ij:Int):=by omega
   have v3:=wrapN ij (by omega)
   have v4:=wrapU ij (by omega)
   have v5:((ij:Int)/2)=(g:Int):=by omega
   have v6:=wrapN g (by omega)
   have v7:=wrapU g (by omega)
   have v8:((g:Int)+1)=((g+1:Nat):Int):=by omega
   have v9:=wrapN (g+1) (by omega)
   obtain ⟨g1,hg1⟩:∃g1,g1=g+1:=⟨_,rfl⟩
   rw [←hg1] at v8 v9
   have hgN:g<N:=by omega
   have haN:a<N:=by have:=F0.out;omega
   have hyC:y∈C:=by rw [hC];simp
   have hx:(P++[x]++C++S)[a]? =some x:=by
    have e:P++[x]++C++S=P++x::(C++S):=by simp
    rw [e,F0.out.1];exact get_mid _ _ _
   have hy:(P++[x]++C++S)[g]? =some y:=by
    have e:P++[x]++C++S=(P++[x]++C1++D1)++y::(D2++E++S):=by rw [hC];simp
    have e2:g=(P++[x]++C1++D1).length:=by have:=F0.out;simp;omega
    rw [e,e2];exact get_mid _ _ _
   obtain ⟨x0,x1,x2,x3⟩:=hst.at_.cell hx
   obtain ⟨y0,y1,y2,y3⟩:=hst.at_.cell hy
   have CMP:=hid (fun W (hb:Below wr.heap.size wr W)=>cmp_now HOK.out hst (show y∈[x]++C from by simp [hyC]) (show x∈[x]++C from by simp) W hb)
   have HLT:=hid (ltE_cmp (ks:=ks) (HI.out y hyC))
   have HNT:=hid (ltE_not (ks:=ks) (HOK.out.el x (by simp)).2 (HOK.out.el y (by simp [hyC])).2 (HI.out y hyC))
   have hst2:=hid hst
   have FG:=hid (show i=m+C1.length∧j=i+(D1++y::D2).length∧g=i+D1.length∧g1=g+1∧C=C1++(D1++y::D2)++E∧(∀C' y,C1=C'++[y]→ltE ks y x)∧(∀y E',E=y::E'→ltE ks x y) from ⟨hi,hj,hg,hg1,hC,h1,h2⟩)
   have q1:(0:Int)≤(g:Int):=by omega
   have q2:(g:Int)<(N:Int):=by omega
   have q3:(0:Int)≤(a:Int):=by omega
   have q4:(a:Int)<(N:Int):=by omega
   have w1:=wrapN a (by omega)
   clear hi hj hC h1 h2 hg hg1 hd hD hx hy hst hij0 hyC
   generalize cmpK ks y.l x.l=c at*
   have p0:=World.plus_cell x0;have p1:=World.plus_cell x1;have p2:=World.plus_cell x2;have p3:=World.plus_cell x3
   have p4:=World.plus_cell y0;have p5:=World.plus_cell y1;have p6:=World.plus_cell y2;have p7:=World.plus_cell y3
   go_wp2
   refine wp_region_plus (by kernel_rfl) (by kernel_rfl) ?_
   repeat (first|go_big_quiet_skip|(go_big_quiet_want;go_big_quiet_op;first|go_big_quiet_on|go_big_quiet_call (((go_at_call 25;exact Calls.plus_of (CMP.out _ (World.plus_below _ _)))))))
   refine wpQuiet_nil ?_
   rintro _ ⟨xq,rfl⟩
   have HST3:=hid (hst2.out.step (World.plus_below _ xq))
   clear p0 p1 p2 p3 p4 p5 p6 p7 x0 x1 x2 x3 y0 y1 y2 y3 hst2
   generalize World.plus wr xq=wr2 at*
   by_cases hc0:c<0
   ·have hcd:decide (c<0)=true:=by simpa using hc0
    have hyx:ltE ks y x:=HLT.out.2 hc0
    go_wp2
    go_roundw
    case rel=>exact ⟨g1,j,C1++(D1++[y]),D2,E,rfl,rfl,by have:=FG.out;simp;omega,by have:=FG.out;simp at this;omega,by rw [FG.out.2.2.2.2.1];simp,fun C' z e=>by rw [←List.append_assoc] at e;have:=(List.append_inj' e rfl).2;simp at this;rw [←this];exact hyx,FG.out.2.2.2.2.2.2,HST3.out⟩
    case measure=>have:=FG.out;simp [intOf] at this ⊢;omega
   ·have hcd:decide (c<0)=false:=by simpa using hc0
    have hxy:ltE ks x y:=HNT.out.1 (fun h=>hc0 (HLT.out.1 h))
    go_wp2
    go_roundw
    case rel=>exact ⟨i,g,C1,D1,y::D2++E,rfl,rfl,FG.out.1,FG.out.2.2.1,by rw [FG.out.2.2.2.2.1];simp,FG.out.2.2.2.2.2.1,fun z E' e=>by have:=(List.cons.inj e).1;rw [←this];exact hxy,HST3.out⟩
    case measure=>have:=FG.out;simp [intOf] at this ⊢;omega
end Go.Proofs.YtejleplhmkmegaaGreatDoor
