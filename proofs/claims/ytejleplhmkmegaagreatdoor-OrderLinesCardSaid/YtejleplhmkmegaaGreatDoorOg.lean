/- Texts joined: OrH. -/
import Derived.Test.YtejleplhmkmegaaGreatDoorOf
import Derived.Deep.CutBlock
set_option linter.unusedVariables false
set_option linter.unusedSimpArgs false
namespace Go.Proofs.YtejleplhmkmegaaGreatDoor
set_option maxRecDepth 100000
open Go.ChangeShapes Go.WideShapes Go.ChangeAt Go.RowKit Go.Fl
def CutPost (d:Nat) (f:FilD) (w:World) (e:Ending) (w':World):Prop:=∃cs',e= .returned (.agg cs'.toArray)∧FilS (fun b=>w.heap.size≤b∧b<w'.heap.size) w' (d+1) cs' (cutF d f)∧Below w.heap.size w w'
def CutSpec (d:Nat):Prop:=∀(S:Nat→Prop) (D:Nat) (f:FilD) (cs:List Value) (w:World),FilS S w D cs f→Calls Tryz.prog 52 #[.agg cs.toArray,.int .i64 ((d:Int)+1)] w (CutPost d f w)
theorem free_blk {W:World} {b i:Nat} {cs:Array Value} {T:TypeId} (h:W.heap[b]? =some (.cells cs T (0,0))):W.frozen? ⟨b,i,none⟩=false:=by
 simp [World.frozen?,h]
def cutL:Nat→List FilD→List FilD
 |0,_=>[]
 |d+1,l=>(l.take 10).map (cutF d)
theorem cutF_eq (d:Nat) (k:Int) (n:ByteArray) (ws:List ByteArray) (fr till:Int) (l:List FilD):cutF d (.mk k n ws fr till l)= .mk k (cutS 30 n) ((ws.take 10).map (cutS 110)) fr till (cutL d l):=by
 cases d<;>rfl
theorem cutL_at {d j:Nat} {l:List FilD} (hj:j<(cutL d l).length):∃d',d=d'+1∧j<10∧∃h:j<l.length,(cutL d l)[j]=cutF d' l[j]:=by
 cases d with
 |zero=>simp [cutL] at hj
 |succ d=>
  have hj2:=hj
  simp only [cutL,List.length_map,List.length_take] at hj2
  exact ⟨d,rfl,by omega,by omega,by simp [cutL]⟩
theorem cutL_end {d j:Nat} {l:List FilD} (hj:j=(cutL d l).length):j=l.length∨(j<l.length∧j=10)∨(j<l.length∧j<10∧d=0):=by
 cases d with
 |zero=>
  simp only [cutL,List.length_nil] at hj
  omega
 |succ d=>
  simp only [cutL,List.length_map,List.length_take] at hj
  omega
theorem cutS_small (c:Nat) (s:ByteArray) (h:s.size≤9223372036854775807):(cutS c s).size≤9223372036854775807:=by
 unfold cutS
 simp [ByteArray.size_extract]
 omega
abbrev outC (k:Int) (n:ByteArray) (vw:Value) (fr till:Int) (vl:Value):Obj:= .cells #[.int .i64 k,.string n,vw,.int .i64 fr,.int .i64 till,vl] 29 (0,0)
set_option maxHeartbeats 8000000 in
theorem cut_step (d:Nat) (hd:d≤100) (ih:∀d',d=d'+1→CutSpec d'):CutSpec d:=by
 intro S D f cs w hf
 obtain ⟨k,n,ws,fr,till,l⟩:=f
 cases D with
 |zero=>simp [FilS] at hf
 |succ D=>
 unfold FilS at hf
 obtain ⟨vw,vl,rows,rfl,hn,hw,hws,hrl,hr6,hl,hrec⟩:=hf
 obtain ⟨aw,cw,rfl,w1,w2,w3⟩:=SlAt.shape hw.sl
 obtain ⟨al,cl,rfl,l1,l2,l3⟩:=SlAt.shape hl.sl
 have HW:=hid hw.sl;have HL:=hid hl.sl;have HWS:=hid hws;have HRL:=hid hrl;have HR6:=hid hr6;have HREC:=hid hrec
 clear hw hl hws hrl hr6 hrec
 obtain ⟨i0,hi,hiz0,hiz1,hiz2⟩:=info_parts info_string
 unfold maxLen at w2 l2
 have im:=ite_min
 have q1:(0:Int)≤min (n.size:Int) 30:=by omega
 have q2:min (n.size:Int) 30≤(n.size:Int):=by omega
 have q3:n.extract 0 (min (n.size:Int) 30).toNat=cutS 30 n:=cutS_is 30 n
 obtain ⟨LD,hLD⟩:∃L,ws.length=L:=⟨_,rfl⟩
 have HLD:=hid hLD
 obtain ⟨N,hN⟩:∃N,min LD 10=N:=⟨_,rfl⟩
 have HNN:=hid hN
 have HCN:Hid ((N=LD∨N=10)∧N≤LD∧N≤10):=by unfold Hid;omega
 obtain ⟨R,hR⟩:∃R,strsV ((ws.take 10).map (cutS 110))=R:=⟨_,rfl⟩
 have HRR:=hid hR
 have HR:Hid (strsV ((ws.take N).map (cutS 110))=R):=by
  unfold Hid
  rw [←hR,←hN]
  by_cases h:LD≤10
  ·rw [List.take_of_length_le (by omega),List.take_of_length_le (by omega)]
  ·rw [Nat.min_eq_right (by omega)]
 rw [hLD] at w1 ⊢
 clear hLD hN hR
 go_enter Tryz.func52,Tryz.ntmps52
 go_wp2
 have hS0:(fun w':World=>w'.cell? ⟨w.heap.size,0,none⟩=some (.int .i64 k)∧w'.cell? ⟨w.heap.size,1,none⟩=some (.string n)∧w'.cell? ⟨w.heap.size,3,none⟩=some (.int .i64 fr)∧w'.cell? ⟨w.heap.size,4,none⟩=some (.int .i64 till)) ((w.alloc (.cells #[.int .i64 k,.string n,.slice aw LD cw,.int .i64 fr,.int .i64 till,.slice al l.length cl] 29)).alloc (.cells #[.int .i64 0,.string { data:= #[]},.slice none 0 0,.int .i64 0,.int .i64 0,.slice none 0 0] 29)).drew:=⟨by go_simp,by go_simp,by go_simp,by go_simp⟩
 refine wp_region_some (fun w':World=>w'.cell? ⟨w.heap.size,0,none⟩=some (.int .i64 k)∧w'.cell? ⟨w.heap.size,1,none⟩=some (.string n)∧w'.cell? ⟨w.heap.size,3,none⟩=some (.int .i64 fr)∧w'.cell? ⟨w.heap.size,4,none⟩=some (.int .i64 till)) [13] (by kernel_rfl) ?_
 refine Tk 0 hS0 ?_
 refine Tk 1 hS0 ?_
 refine Tk 2 hS0 ?_
 refine Tk 3 hS0 ?_
 refine Tk 4 hS0 ?_
 refine Tk 5 hS0 ?_
 refine Tk 6 hS0 ?_
 refine Tk 7 hS0 ?_
 refine Tk 8 hS0 ?_
 refine Tk 9 hS0 ?_
 refine Tk 10 hS0 ?_
 refine Tk 11 hS0 ?_
 refine wpMix_next (t:=12) (by kernel_rfl) ?_
 simp only [opsAt,Ol]
 go_wp2
 refine ⟨⟨by go_simp,by go_simp,by go_simp,by go_simp⟩,?_⟩
 refine wpMix_rest [13] (by kernel_rfl) ?_
 simp only [opsAt,Ol]
 go_upto_block 0 with fail
 obtain ⟨X,hX⟩:∃X,(((w.alloc (.cells #[.int .i64 k,.string n,.slice aw LD cw,.int .i64 fr,.int .i64 till,.slice al l.length cl] 29)).alloc (.cells #[.int .i64 0,.string { data:= #[]},.slice none 0 0,.int .i64 0,.int .i64 0,.slice none 0 0] 29)).alloc (.cells #[.int .i64 k,.string (cutS 30 n),.slice none 0 0,.int .i64 fr,.int .i64 till,.slice none 0 0] 29)).drew=X:=⟨_,rfl⟩
 have hBX:Below w.heap.size w X:=by rw [←hX];exact Gr
 have hzX:X.heap.size=w.heap.size+1+1+1:=by rw [←hX];simp
 have x0:X.heap[w.heap.size]? =some (outC k n (.slice aw LD cw) fr till (.slice al l.length cl)):=by rw [←hX];show (((w.alloc _).alloc _).alloc _).heap[_]? =_;rw [heap_past (by simp;omega),heap_past (by simp)];exact heap_at rfl
 have x1:X.heap[w.heap.size+1]? =some (outC 0 { data:= #[]} (.slice none 0 0) 0 0 (.slice none 0 0)):=by rw [←hX];show (((w.alloc _).alloc _).alloc _).heap[_]? =_;rw [heap_past (by simp)];exact heap_at (by simp)
 have x2:X.heap[w.heap.size+1+1]? =some (outC k (cutS 30 n) (.slice none 0 0) fr till (.slice none 0 0)):=by rw [←hX];show (((w.alloc _).alloc _).alloc _).heap[_]? =_;exact heap_at (by simp)
 rw [hX]
 clear hX
 go_cut [6] from 20 to 48 (fun s6 wx=>∃vw',wx.heap[w.heap.size]? =some (outC k n (.slice aw LD cw) fr till (.slice al l.length cl))∧wx.heap[w.heap.size+1]? =some (outC 0 { data:= #[]} (.slice none 0 0) 0 0 (.slice none 0 0))∧wx.heap[w.heap.size+1+1]? =some (outC k (cutS 30 n) vw' fr till (.slice none 0 0))∧
  wx.ownsRow (w.heap.size+1+1+1) 9 1 vw' N R∧Below w.heap.size w wx)
 case first=>
  have HX:=hid (⟨x0,x1,x2,hBX,hzX⟩:X.heap[w.heap.size]? =some (outC k n (.slice aw LD cw) fr till (.slice al l.length cl))∧X.heap[w.heap.size+1]? =some (outC 0 { data:= #[]} (.slice none 0 0) 0 0 (.slice none 0 0))∧X.heap[w.heap.size+1+1]? =some (outC k (cutS 30 n) (.slice none 0 0) fr till (.slice none 0 0))∧Below w.heap.size w X∧X.heap.size=w.heap.size+1+1+1)
  clear x0 x1 x2 hBX hzX
  go_wp2_with fail
  go_loopw [6] (fun iv wr=>∃(j:Nat) (v:Value),j≤N∧iv= .int .i64 (j:Nat)∧wr.heap[w.heap.size]? =some (outC k n (.slice aw LD cw) fr till (.slice al l.length cl))∧wr.heap[w.heap.size+1]? =some (outC 0 { data:= #[]} (.slice none 0 0) 0 0 (.slice none 0 0))∧wr.heap[w.heap.size+1+1]? =some (outC k (cutS 30 n) v fr till (.slice none 0 0))∧
   wr.ownsRow (w.heap.size+1+1+1) 9 1 v j (strsV ((ws.take j).map (cutS 110)))∧Below w.heap.size w wr∧w.heap.size+1+1+1≤wr.heap.size) (fun iv _=>N-(intOf iv).toNat)
  case atStart=>exact ⟨0,_,Nat.zero_le _,rfl,HX.out.1,HX.out.2.1,HX.out.2.2.1,World.ownsRow_nil _ _ _ _,HX.out.2.2.2.1,Nat.le_of_eq HX.out.2.2.2.2.symm⟩
  case round=>
   obtain ⟨j,v,hj,rfl,y0,y1,y2,hown,hbel,hz⟩:=hrel
   have g1:(0:Int)≤(j:Int):=Int.natCast_nonneg _
   have u2:wr.cell? ⟨w.heap.size,2,none⟩=some (.slice aw LD cw):=cell_blk y0 rfl
   have u3:wr.cell? ⟨w.heap.size+1+1,2,none⟩=some v:=cell_blk y2 rfl
   by_cases hjN:j<N
   ·have hkL:j<LD:=by have:=HCN.out;omega
    have hkn:j<10:=by have:=HCN.out;omega
    have hlen:j<ws.length:=by rw [HLD.out];exact hkL
    obtain ⟨b,off,rfl,hcell⟩:=(SlAt.parts HW.out).2.2.2.2 (by simp;omega)
    have ck:=hcell j (.string ws[j]) (by rw [List.getElem?_map,List.getElem?_eq_getElem hlen];rfl)
    have dk:=cell_step ck hbel
    have hzs:=HWS.out ws[j] (List.getElem_mem hlen)
    have HT:=hid (txtc_snoc 110 hlen)
    generalize ws[j]=s at*
    have z3:b<wr.heap.size:=World.block_lt_of_cell? _ _ dk
    have z4:b<w.heap.size:=World.block_lt_of_cell? _ _ ck
    have HB:=hid hbel;have HO:=hid hown;have HY:=hid (⟨y0,y1,y2,hz⟩:_∧_∧_∧_)
    clear hcell ck hbel hown y0 y1 y2
    have g2:(j:Int)<(LD:Int):=by omega
    have r1:(0:Int)≤min (s.size:Int) 110:=by omega
    have r2:min (s.size:Int) 110≤(s.size:Int):=by omega
    have r3:s.extract 0 (min (s.size:Int) 110).toNat=cutS 110 s:=cutS_is 110 s
    clear q1 q2 q3
    have zb0:w.heap.size<wr.heap.size:=by omega
    have zb2:w.heap.size+1+1<wr.heap.size:=by omega
    go_wp2
    have hS0:(fun w':World=>w'.cell? ⟨b,off+j,none⟩=some (.string s)∧w'.cell? ⟨w.heap.size,2,none⟩=some (.slice (some ⟨b,off,none⟩) LD cw)∧w'.cell? ⟨w.heap.size+1+1,2,none⟩=some v) wr.drew:=⟨dk,u2,u3⟩
    refine wp_region_some (fun w':World=>w'.cell? ⟨b,off+j,none⟩=some (.string s)∧w'.cell? ⟨w.heap.size,2,none⟩=some (.slice (some ⟨b,off,none⟩) LD cw)∧w'.cell? ⟨w.heap.size+1+1,2,none⟩=some v) [16,17,18] (by kernel_rfl) ?_
    refine Tk 0 hS0 ?_
    refine Tk 1 hS0 ?_
    refine Tk 2 hS0 ?_
    refine Tk 3 hS0 ?_
    refine Tk 4 hS0 ?_
    refine Tk 5 hS0 ?_
    refine Tk 6 hS0 ?_
    refine Tk 7 hS0 ?_
    refine Tk 8 hS0 ?_
    refine Tk 9 hS0 ?_
    refine Tk 10 hS0 ?_
    refine Tk 11 hS0 ?_
    refine Tk 12 hS0 ?_
    refine Tk 13 hS0 ?_
    refine Tk 14 hS0 ?_
    refine wpMix_next (t:=15) (by kernel_rfl) ?_
    simp only [opsAt,Ol]
    go_wp2
    refine ⟨⟨by go_simp,by go_simp,by go_simp⟩,?_⟩
    refine wpMix_rest [16,17,18] (by kernel_rfl) ?_
    simp only [opsAt,Ol]
    go_wp2_with (at_builtin;go_loud (refine wpList_append_sl _ rfl _ _ 23 rfl (w.heap.size+1+1+1) 9 i0 (.string { data:= #[]}) 1 16 Tryz.underlying23 hi hiz0 hiz1 hiz2 rfl (by decide) _ j _ rfl ((HO.out.alloc _).drew) (.slice (some ⟨wr.heap.size,0,none⟩) 1 1) 1 [.string (cutS 110 s)] rfl ((SlAt.new wr #[.string (cutS 110 s)] 9).drew) (by simp [Value.oneCell']) (by unfold maxLen;omega) (by omega) (by simp;omega) ?_);intro v1 w1 hown1 hgrow1 hb1;have hB0:Below wr.heap.size wr (wr.alloc (.cells #[.string (cutS 110 s)] 9)).drew:=Gr;have y0:=own_blk ((HO.out.alloc _).drew) hgrow1 (by omega) ((hB0.block _ (by omega)).trans HY.out.1);have y1:=own_blk ((HO.out.alloc _).drew) hgrow1 (by omega) ((hB0.block _ (by omega)).trans HY.out.2.1);have y2:=own_blk ((HO.out.alloc _).drew) hgrow1 (by omega) ((hB0.block _ (by omega)).trans HY.out.2.2.1);have c2:=cell_blk (i:=2) y2 rfl;have f2:=free_blk (i:=2) y2;obtain ⟨qo,qc,qe,_⟩:=SlAt.shape (SlAt.own hown1);subst qe)
    go_roundw
    case rel=>
     refine ⟨j+1,.slice qo (j+1) qc,hjN,by go_num,?_,?_,?_,?_,?_,?_⟩
     ·rw [heap_set_other (by omega)];exact y0
     ·rw [heap_set_other (by omega)];exact y1
     ·exact blk_set y2
     ·rw [HT.out];exact row_far hown1 (by omega)
     ·exact (own_below ((HO.out.alloc _).drew) hgrow1 (by have:=HB.out;exact Gr) (by omega)).setCell (by dsimp only;omega) _
     ·have:=hgrow1.size;simp at this ⊢;omega
    case measure=>simp [intOf];omega
   ·obtain rfl:j=N:=by omega
    rw [HR.out] at hown
    have hex:LD=j∨(j<LD∧j=10):=by have:=HCN.out;omega
    have HEX:=hid hex;have HO:=hid hown;have HB:=hid hbel;have HY:=hid (⟨y0,y1,y2⟩:_∧_∧_)
    clear hex hown hbel y0 y1 y2
    rcases HEX.out with h|⟨h,h10⟩
    ·by_cases h10:j=10
     ·subst h10
      subst h
      go_wp2
      go_meet
      case rel=>exact ⟨v,HY.out.1,HY.out.2.1,HY.out.2.2,HO.out,HB.out⟩
     ·subst h
      go_wp2
      go_meet
      case rel=>exact ⟨v,HY.out.1,HY.out.2.1,HY.out.2.2,HO.out,HB.out⟩
    ·subst h10
     go_wp2
     go_meet
     case rel=>exact ⟨v,HY.out.1,HY.out.2.1,HY.out.2.2,HO.out,HB.out⟩
 case rest=>
  obtain ⟨vw',y0,y1,y2,hown,hbel⟩:=hcut
  obtain ⟨qo,qc,qe,_⟩:=SlAt.shape (SlAt.own hown)
  subst qe
  have HSW:=hid (SlS.own hown)
  have HLT:=hid (fun b e=>hown.lt b e)
  obtain ⟨V,rfl⟩:∃V,V=wc:=⟨_,rfl⟩
  obtain ⟨jf,hif,hifz0,hifz1,hifz2⟩:=info_parts info_filter
  obtain ⟨CL,hCL⟩:∃C,cutL d l=C:=⟨_,rfl⟩
  have HAT:Hid (∀j,j<(cutL d l).length→∃d',d=d'+1∧j<10∧∃h:j<l.length,(cutL d l)[j]? =some (cutF d' l[j])):=fun j hj=>by
   obtain ⟨d',h1,h2,h3,h4⟩:=cutL_at hj
   exact ⟨d',h1,h2,h3,by rw [List.getElem?_eq_getElem hj,h4]⟩
  have HEND:=hid (fun j (hj:j=(cutL d l).length)=>cutL_end hj)
  have HCL:=hid hCL
  obtain ⟨CN,hCN⟩:∃C,(cutL d l).length=C:=⟨_,rfl⟩
  have HCNN:=hid hCN
  rw [hCN] at HAT HEND
  obtain ⟨dp,hdp⟩:∃dp:Int,(d:Int)+1=dp:=⟨_,rfl⟩
  have HDP:=hid hdp
  have hd1:1≤dp:=by omega
  have hd2:dp≤101:=by omega
  rw [hdp]
  obtain ⟨LL,hLL⟩:∃L,l.length=L:=⟨_,rfl⟩
  have HLL:=hid hLL
  rw [hLL] at y0 l1 ⊢
  have hzV:w.heap.size+1+1+1≤V.heap.size:=by have:=lt_of_block y2;omega
  have HX2:=hid (⟨y0,y1,y2,hbel,hzV⟩:_∧_∧_∧_∧_)
  clear hdp hLL hCL hCN hown y0 y1 y2 hbel hzV x0 x1 x2 hBX hzX
  go_wp2_with fail
  go_loopw [7] (fun iv wr=>∃(j:Nat) (v:Value) (S':Nat→Prop) (rs:List (List Value)),j≤CN∧iv= .int .i64 (j:Nat)∧wr.heap[w.heap.size]? =some (outC k n (.slice aw LD cw) fr till (.slice al LL cl))∧wr.heap[w.heap.size+1]? =some (outC 0 { data:= #[]} (.slice none 0 0) 0 0 (.slice none 0 0))∧wr.heap[w.heap.size+1+1]? =some (outC k (cutS 30 n) (.slice qo N qc) fr till v)∧
   wr.ownsRow (w.heap.size+1+1+1) 29 6 v j rs.flatten∧rs.length=j∧(∀r∈rs,r.length=6)∧(∀b,S' b→w.heap.size+1+1+1≤b∧b<wr.heap.size∧v.ownBlock≠some b)∧SlS S' wr (.slice qo N qc) N 1 R∧(∀(i:Nat) (f':FilD) (r:List Value),(cutL d l)[i]? =some f'→rs[i]? =some r→FilS S' wr d r f')∧
   Below w.heap.size w wr∧w.heap.size+1+1+1≤wr.heap.size) (fun iv _=>CN-(intOf iv).toNat)
  case atStart=>
   refine ⟨0,_,_,[],Nat.zero_le _,rfl,HX2.out.1,HX2.out.2.1,HX2.out.2.2.1,World.ownsRow_nil _ _ _ _,rfl,by simp,?_,HSW.out,fun i f' r _ h=>by simp at h,HX2.out.2.2.2.1,HX2.out.2.2.2.2⟩
   intro b hb
   have:=HLT.out b hb
   exact ⟨this.1,this.2,by simp [Value.ownBlock]⟩
  case round=>
   obtain ⟨j,v,S',rs,hj,rfl,y0,y1,y2,hown,hrs,hr6,hS',hsw,hfs,hbel,hz⟩:=hrel
   have g1:(0:Int)≤(j:Int):=Int.natCast_nonneg _
   have u2:wr.cell? ⟨w.heap.size,5,none⟩=some (.slice al LL cl):=cell_blk y0 rfl
   have u3:wr.cell? ⟨w.heap.size+1+1,5,none⟩=some v:=cell_blk y2 rfl
   have zb0:w.heap.size<wr.heap.size:=by omega
   have zb2:w.heap.size+1+1<wr.heap.size:=by omega
   by_cases hjN:j<CN
   ·obtain ⟨d',rfl,hj10,hjl,hat⟩:=HAT.out j hjN
    have hjL:j<LL:=by have:=HLL.out;omega
    have hI:(j:Int)<(LL:Int):=by omega
    have hI2:(j:Int)<10:=by omega
    have hI3:(1:Int)<dp:=by have:=HDP.out;omega
    obtain ⟨bl,ol,rfl,hcell⟩:=(SlAt.parts HL.out).2.2.2.2 (by rw [(SlAt.len HL.out)];omega)
    have hjr:j<rows.length:=by rw [HRL.out];exact hjl
    have hfr:=HREC.out j hjl rows[j] (List.getElem?_eq_getElem hjr)
    have hcr:∀i u,i<6→rows[j][i]? =some u→w.cell? ⟨bl,ol+(j*6+i),none⟩=some u:=fun i u h6 hu=>hcell _ _ ((flatten_at HR6.out (List.getElem?_eq_getElem hjr) h6).trans hu)
    have HI:=hid (fun W (h:Below w.heap.size w W)=>ih d' rfl S D l[j] rows[j] W (hfr.below h))
    rw [show (d':Int)+1=dp-1 by have:=HDP.out;omega] at HI
    generalize rows[j]=row at*
    generalize l[j]=fj at*
    cases D with
    |zero=>simp [FilS] at hfr
    |succ D=>
    obtain ⟨k2,n2,ws2,fr2,till2,l2'⟩:=fj
    unfold FilS at hfr
    obtain ⟨vw2,vl2,rows2,rfl,t1,hw2,t2,t3,t4,hl2,t5⟩:=hfr
    clear t1 t2 t3 t4 t5
    obtain ⟨aw2,cw2,rfl,_⟩:=SlAt.shape hw2.sl
    obtain ⟨al2,cl2,rfl,_⟩:=SlAt.shape hl2.sl
    have b0:=cell_step (hcr 0 _ (by decide) rfl) hbel;have b1:=cell_step (hcr 1 _ (by decide) rfl) hbel;have b2:=cell_step (hcr 2 _ (by decide) rfl) hbel;have b3:=cell_step (hcr 3 _ (by decide) rfl) hbel;have b4:=cell_step (hcr 4 _ (by decide) rfl) hbel;have b5:=cell_step (hcr 5 _ (by decide) rfl) hbel
    rw [Nat.add_zero] at b0
    rw [←Nat.add_assoc] at b1 b2 b3 b4 b5
    have HB:=hid hbel;have HO:=hid hown;have HY:=hid (⟨y0,y1,y2,hz⟩:_∧_∧_∧_)
    have HS':=hid hS';have HSW2:=hid hsw;have HFS:=hid hfs;have HRS:=hid hrs;have HRS6:=hid hr6;have HATJ:=hid hat
    have zbl:bl<wr.heap.size:=World.block_lt_of_cell? _ _ b0
    clear hcell hcr hw2 hl2 hbel hown y0 y1 y2 hS' hsw hfs hrs hr6 hat
    generalize ws2.length=m2 at*
    generalize l2'.length=m3 at*
    clear q1 q2 q3
    go_wp2
    have hS0:(fun w':World=>w'.cell? ⟨w.heap.size,5,none⟩=some (.slice (some ⟨bl,ol,none⟩) LL cl)∧w'.cell? ⟨w.heap.size+1+1,5,none⟩=some v∧w'.cell? ⟨bl,ol+j*6,none⟩=some (.int .i64 k2)∧w'.cell? ⟨bl,ol+j*6+1,none⟩=some (.string n2)∧w'.cell? ⟨bl,ol+j*6+2,none⟩=some (.slice aw2 m2 cw2)∧w'.cell? ⟨bl,ol+j*6+3,none⟩=some (.int .i64 fr2)∧w'.cell? ⟨bl,ol+j*6+4,none⟩=some (.int .i64 till2)∧w'.cell? ⟨bl,ol+j*6+5,none⟩=some (.slice al2 m3 cl2)) wr.drew:=⟨u2,u3,b0,b1,b2,b3,b4,b5⟩
    refine wp_region_some (fun w':World=>w'.cell? ⟨w.heap.size,5,none⟩=some (.slice (some ⟨bl,ol,none⟩) LL cl)∧w'.cell? ⟨w.heap.size+1+1,5,none⟩=some v∧w'.cell? ⟨bl,ol+j*6,none⟩=some (.int .i64 k2)∧w'.cell? ⟨bl,ol+j*6+1,none⟩=some (.string n2)∧w'.cell? ⟨bl,ol+j*6+2,none⟩=some (.slice aw2 m2 cw2)∧w'.cell? ⟨bl,ol+j*6+3,none⟩=some (.int .i64 fr2)∧w'.cell? ⟨bl,ol+j*6+4,none⟩=some (.int .i64 till2)∧w'.cell? ⟨bl,ol+j*6+5,none⟩=some (.slice al2 m3 cl2)) [11,12,13] (by kernel_rfl) ?_
    refine Tk 0 hS0 ?_
    refine Tk 1 hS0 ?_
    refine Tk 2 hS0 ?_
    refine Tk 3 hS0 ?_
    refine Tk 4 hS0 ?_
    refine Tk 5 hS0 ?_
    refine Tk 6 hS0 ?_
    refine Tk 7 hS0 ?_
    refine Tk 8 hS0 ?_
    refine wpMix_next (t:=9) (by kernel_rfl) ?_
    simp only [opsAt,Ol]
    go_wp2_with (go_at_call 52;go_loud ((with_reducible refine (HI.out _ (by have:=HB.out;exact Gr)).mono ?_);rintro e w1 ⟨cs',rfl,hfc,hb1⟩))
    have hbw:Below wr.heap.size wr w1:=(Below.drew (Below.refl _ _)).trans hb1
    have hzw:=hbw.size
    refine ⟨⟨cell_step hS0.1 hb1,cell_step hS0.2.1 hb1,cell_step hS0.2.2.1 hb1,cell_step hS0.2.2.2.1 hb1,cell_step hS0.2.2.2.2.1 hb1,cell_step hS0.2.2.2.2.2.1 hb1,cell_step hS0.2.2.2.2.2.2.1 hb1,cell_step hS0.2.2.2.2.2.2.2 hb1⟩,?_⟩
    have hfc2:=hfc
    rw [cutF_eq] at hfc2
    unfold FilS at hfc2
    obtain ⟨vw3,vl3,rows3,rfl,t1,hw3,t2,t3,t4,hl3,t5⟩:=hfc2
    clear t1 t2 t3 t4 t5
    obtain ⟨aw3,cw3,rfl,_⟩:=SlAt.shape hw3.sl
    obtain ⟨al3,cl3,rfl,_⟩:=SlAt.shape hl3.sl
    have HFC:=hid hfc
    clear hw3 hl3 hfc
    have v0:=cell_step u2 hbw;have v1':=cell_step u3 hbw;have d0:=cell_step b0 hbw;have d1:=cell_step b1 hbw;have d2:=cell_step b2 hbw;have d3:=cell_step b3 hbw;have d4:=cell_step b4 hbw;have d5:=cell_step b5 hbw
    have zc0:w.heap.size<w1.heap.size:=by omega
    have zc2:w.heap.size+1+1<w1.heap.size:=by omega
    have zcl:bl<w1.heap.size:=by omega
    have HO1:=hid (row_below HO.out hbw)
    have hB1:Below w.heap.size w w1:=HB.out.trans (hbw.mono (by omega))
    have HB1:=hid hB1
    have HY1:=hid (⟨(hbw.block _ (by omega)).trans HY.out.1,(hbw.block _ (by omega)).trans HY.out.2.1,(hbw.block _ (by omega)).trans HY.out.2.2.1⟩:_∧_∧_)
    generalize ((List.take 10 ws2).map (cutS 110)).length=m4 at*
    generalize (cutL d' l2').length=m5 at*
    have HBW:=hid hbw
    clear hbw hb1 hB1 hS0
    refine wpMix_next (t:=10) (by kernel_rfl) ?_
    simp only [opsAt,Ol]
    go_wp2
    refine ⟨⟨by go_simp,by go_simp,by go_simp,by go_simp,by go_simp,by go_simp,by go_simp,by go_simp⟩,?_⟩
    refine wpMix_rest [11,12,13] (by kernel_rfl) ?_
    simp only [opsAt,Ol]
    go_wp2_with (at_builtin;go_loud (refine wpList_append_sl _ rfl _ _ 27 rfl (w.heap.size+1+1+1) 29 jf (.agg #[.int .i64 0,.string { data:= #[]},.slice none 0 0,.int .i64 0,.int .i64 0,.slice none 0 0]) 6 88 Tryz.underlying27 hif hifz0 hifz1 hifz2 rfl (by decide) _ j _ rfl (HO1.out.alloc _) (.slice (some ⟨w1.heap.size,0,none⟩) 1 1) 1 [.int .i64 k2,.string (cutS 30 n2),.slice aw3 m4 cw3,.int .i64 fr2,.int .i64 till2,.slice al3 m5 cl3] rfl (SlAt.new w1 #[.int .i64 k2,.string (cutS 30 n2),.slice aw3 m4 cw3,.int .i64 fr2,.int .i64 till2,.slice al3 m5 cl3] 29) (by simp [Value.oneCell']) (by unfold maxLen;omega) (by omega) (by simp;omega) ?_);intro va w3' hown2 hgrow2 hnb;have y0:=own_blk (HO1.out.alloc _) hgrow2 (by omega) ((heap_past (by omega)).trans HY1.out.1);have y1:=own_blk (HO1.out.alloc _) hgrow2 (by omega) ((heap_past (by omega)).trans HY1.out.2.1);have y2:=own_blk (HO1.out.alloc _) hgrow2 (by omega) ((heap_past (by omega)).trans HY1.out.2.2);have o5:=cell_blk (i:=5) y2 rfl;have f5:=free_blk (i:=5) y2;obtain ⟨qo2,qc2,qe,_⟩:=SlAt.shape (SlAt.own hown2);subst qe)
    go_roundw
    case rel=>
     have hgs:=hgrow2.size
     simp only [World.size_alloc] at hgs
     have hne1:∀b,S' b→(Value.slice qo2 (j+1) qc2).ownBlock≠some b∧b<wr.heap.size∧w.heap.size+1+1+1≤b∧v.ownBlock≠some b:=fun b hb=>by
      obtain ⟨h1,h2,h3⟩:=HS'.out b hb
      refine ⟨fun e=> ?_,h2,h1,h3⟩
      rcases hnb with h|h
      ·exact h3 (h.symm.trans e)
      ·rw [h] at e;simp only [Option.some.injEq,World.size_alloc] at e;omega
     have hne2:∀b,wr.heap.size≤b→b<w1.heap.size→(Value.slice qo2 (j+1) qc2).ownBlock≠some b∧v.ownBlock≠some b:=fun b h1 h2=>by
      have h3:v.ownBlock≠some b:=fun e=>by have:=(HO.out.lt b e).2;omega
      refine ⟨fun e=> ?_,h3⟩
      rcases hnb with h|h
      ·exact h3 (h.symm.trans e)
      ·rw [h] at e;simp only [Option.some.injEq,World.size_alloc] at e;omega
     have hk1:∀b,w.heap.size+1+1+1≤b→b<w1.heap.size→v.ownBlock≠some b→(w3'.setCell ⟨w.heap.size+1+1,5,none⟩ (.slice qo2 (j+1) qc2)).heap[b]? =w1.heap[b]? :=fun b h1 h2 h3=>by
      rw [heap_set_other (by omega),hgrow2.block b (by simp;omega) (fun e=>h3 e.symm),heap_past h2]
     have hk0:∀b,S' b→b<wr.heap.size→(w3'.setCell ⟨w.heap.size+1+1,5,none⟩ (.slice qo2 (j+1) qc2)).heap[b]? =wr.heap[b]? :=fun b hb hl=>by
      obtain ⟨_,h2,h3,h4⟩:=hne1 b hb
      rw [hk1 b h3 (by omega) h4,HBW.out.block b h2]
     refine ⟨j+1,.slice qo2 (j+1) qc2,fun b=>S' b∨(wr.heap.size≤b∧b<w1.heap.size),rs++[[.int .i64 k2,.string (cutS 30 n2),.slice aw3 m4 cw3,.int .i64 fr2,.int .i64 till2,.slice al3 m5 cl3]],by omega,by go_num,?_,?_,?_,?_,?_,?_,?_,?_,?_,?_,?_⟩
     ·rw [heap_set_other (by omega)];exact y0
     ·rw [heap_set_other (by omega)];exact y1
     ·exact blk_set y2
     ·rw [show ∀r:List Value,(rs++[r]).flatten=rs.flatten++r from fun r=>by simp]
      exact row_far hown2 (by omega)
     ·rw [List.length_append,HRS.out];rfl
     ·intro r hr
      rcases List.mem_append.1 hr with h|h
      ·exact HRS6.out r h
      ·simp at h;subst h;rfl
     ·intro b hb
      simp only [World.size_setCell]
      rcases hb with hb|⟨h1,h2⟩
      ·obtain ⟨h1,h2,h3,_⟩:=hne1 b hb
       exact ⟨h3,by omega,h1⟩
      ·exact ⟨by omega,by omega,(hne2 b h1 h2).1⟩
     ·exact HSW2.out.keep (fun b h=> .inl h) hk0
     ·intro i f' r hf' hr
      by_cases hij:i<j
      ·rw [List.getElem?_append_left (by rw [HRS.out];exact hij)] at hr
       exact (HFS.out i f' r hf' hr).keep (fun b h=> .inl h) hk0
      ·have hij2:i=j:=by
        have:=(List.getElem?_eq_some_iff.1 hr).1
        rw [List.length_append,HRS.out] at this
        simp at this
        omega
       subst hij2
       rw [HATJ.out] at hf'
       obtain rfl:=Option.some.inj hf'
       rw [List.getElem?_append_right (by rw [HRS.out];exact Nat.le_refl _),HRS.out,Nat.sub_self] at hr
       obtain rfl:=Option.some.inj hr
       exact HFC.out.keep (fun b h=> .inr h) (fun b hb hl=>hk1 b (by have:=hb.1;simp only [World.size_drew] at this;omega) hl (hne2 b (by have:=hb.1;simpa using this) hl).2)
     ·exact (own_below (HO1.out.alloc _) hgrow2 (by have:=HB1.out;exact Gr) (by omega)).setCell (by dsimp only;omega) _
     ·simp only [World.size_setCell];omega
    case measure=>simp [intOf];omega
   ·obtain rfl:j=CN:=by omega
    have hex:=HEND.out _ rfl
    rw [HLL.out] at hex
    have hown2:=hown
    obtain ⟨vo,vc,ve,_⟩:=SlAt.shape (SlAt.own hown)
    subst ve
    have HF:Hid (∀w':World,(∀b,w.heap.size+1+1+1≤b→w'.heap[b]? =wr.heap[b]?)→w'.heap.size=wr.heap.size→FilS (fun b=>w.heap.size≤b∧b<w'.heap.size) w' (d+1) [.int .i64 k,.string (cutS 30 n),.slice qo N qc,.int .i64 fr,.int .i64 till,.slice vo j vc] (cutF d (.mk k n ws fr till l))):=by
     intro w' hk hz'
     have hNl:((ws.take 10).map (cutS 110)).length=N:=by rw [List.length_map,List.length_take,HLD.out,←HNN.out,Nat.min_comm]
     rw [cutF_eq]
     unfold FilS
     have hj:=HCNN.out
     refine ⟨_,_,rs,rfl,cutS_small 30 n hn,?_,?_,hrs.trans hj.symm,hr6,?_,fun i hi r hr=> ?_⟩
     ·rw [hNl,HRR.out]
      exact hsw.keep (fun b hb=>by have:=hS' b hb;omega) (fun b hb _=>hk b (hS' b hb).1)
     ·intro s hs
      obtain ⟨x,hx,rfl⟩:=List.mem_map.1 hs
      exact cutS_small 110 x (HWS.out x (List.mem_of_mem_take hx))
     ·rw [hj]
      exact (SlS.own hown).keep (fun b hb=>by have:=hown2.lt b hb;omega) (fun b hb _=>hk b (hown2.lt b hb).1)
     ·exact (hfs i _ r (List.getElem?_eq_getElem hi) hr).keep (fun b hb=>by have:=hS' b hb;omega) (fun b hb _=>hk b (hS' b hb).1)
    have c0:=cell_blk (i:=0) y2 rfl;have c1:=cell_blk (i:=1) y2 rfl;have c2:=cell_blk (i:=2) y2 rfl;have c3:=cell_blk (i:=3) y2 rfl;have c4:=cell_blk (i:=4) y2 rfl;have c5:=cell_blk (i:=5) y2 rfl
    have e0:=cell_blk (i:=0) y1 rfl;have e1:=cell_blk (i:=1) y1 rfl;have e2:=cell_blk (i:=2) y1 rfl;have e3:=cell_blk (i:=3) y1 rfl;have e4:=cell_blk (i:=4) y1 rfl;have e5:=cell_blk (i:=5) y1 rfl
    have f0:=free_blk (i:=0) y1;have f1:=free_blk (i:=1) y1;have f2:=free_blk (i:=2) y1;have f3:=free_blk (i:=3) y1;have f4:=free_blk (i:=4) y1;have f5:=free_blk (i:=5) y1
    have HB:=hid hbel
    clear hown hown2 hrs hr6 hS' hsw hfs hbel
    have hfin:∀W:World,(∀b,w.heap.size+1+1+1≤b→W.heap[b]? =wr.heap[b]?)→W.heap.size=wr.heap.size→Below w.heap.size w W→∃cs',Ending.returned (.agg #[.int .i64 k,.string (cutS 30 n),.slice qo N qc,.int .i64 fr,.int .i64 till,.slice vo j vc])= .returned (.agg cs'.toArray)∧FilS (fun b=>w.heap.size≤b∧b<W.heap.size) W (d+1) cs' (cutF d (.mk k n ws fr till l))∧Below w.heap.size w W:=fun W h1 h2 h3=>⟨_,rfl,HF.out W h1 h2,h3⟩
    have HFIN:=hid hfin
    clear hfin
    rcases hex with h|⟨h,h10⟩|⟨h,h10,hd0⟩
    ·subst h
     go_wp2
     ((show bodyPost _ _ _ _ _ _);refine bodyPost_ret (by simp only [results,Tryz.results52];go_simp;try rfl) rfl ?_)
     refine HFIN.out _ (fun b hb=> ?_) (by simp) ?_
     ·rw [heap_set_other (by omega),heap_set_other (by omega),heap_set_other (by omega),heap_set_other (by omega),heap_set_other (by omega),heap_set_other (by omega)]
     ·repeat (refine Below.setCell ?_ (by dsimp only;omega) _)
      exact HB.out
    ·have hI:(j:Int)<(LL:Int):=by omega
     subst h10
     go_wp2
     ((show bodyPost _ _ _ _ _ _);refine bodyPost_ret (by simp only [results,Tryz.results52];go_simp;try rfl) rfl ?_)
     refine HFIN.out _ (fun b hb=> ?_) (by simp) ?_
     ·rw [heap_set_other (by omega),heap_set_other (by omega),heap_set_other (by omega),heap_set_other (by omega),heap_set_other (by omega),heap_set_other (by omega)]
     ·repeat (refine Below.setCell ?_ (by dsimp only;omega) _)
      exact HB.out
    ·have hI:(j:Int)<(LL:Int):=by omega
     have hI2:(j:Int)<10:=by omega
     obtain rfl:dp=1:=by have:=HDP.out;omega
     go_wp2
     ((show bodyPost _ _ _ _ _ _);refine bodyPost_ret (by simp only [results,Tryz.results52];go_simp;try rfl) rfl ?_)
     refine HFIN.out _ (fun b hb=> ?_) (by simp) ?_
     ·rw [heap_set_other (by omega),heap_set_other (by omega),heap_set_other (by omega),heap_set_other (by omega),heap_set_other (by omega),heap_set_other (by omega)]
     ·repeat (refine Below.setCell ?_ (by dsimp only;omega) _)
      exact HB.out
theorem cut_any:∀d,d≤100→CutSpec d
 |0,h=>cut_step 0 h (fun _ h=>by omega)
 |d+1,h=>cut_step (d+1) h (fun d' e=>by obtain rfl:d=d':=(by omega);exact cut_any d (by omega))
end Go.Proofs.YtejleplhmkmegaaGreatDoor
