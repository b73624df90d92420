/- Texts joined: SchMo. -/
import Derived.Test.YtejleplhmkmegaaGreatDoorOf
import Derived.Test.YtejleplhmkmegaaGreatDoorOc
set_option linter.unusedVariables false
set_option linter.unusedSimpArgs false
namespace Go.Proofs.YtejleplhmkmegaaGreatDoor
set_option maxRecDepth 100000
open Go.ChangeShapes Go.WideShapes Go.ChangeAt Go.RowKit
def txtCut (n m:Nat) (ss:List ByteArray):List ByteArray:=(ss.take m).map (cutS n)
theorem txt_snoc (n:Nat) {ss:List ByteArray} {k:Nat} (hk:k<ss.length):strsV ((ss.take (k+1)).map (cutS n))=strsV ((ss.take k).map (cutS n))++[.string (cutS n ss[k])]:=by
 rw [List.take_succ_eq_append_getElem hk,List.map_append]
 unfold strsV
 rw [List.map_append]
 rfl
theorem three_is {w:World} {b:Nat} {x y z:Value} {t:TypeId} (h:w.heap[b]? =some (.cells #[x,y,z] t (0,0))):w.cell? ⟨b,0,none⟩=some x∧w.cell? ⟨b,1,none⟩=some y∧w.cell? ⟨b,2,none⟩=some z∧w.frozen? ⟨b,0,none⟩=false∧w.frozen? ⟨b,1,none⟩=false∧w.frozen? ⟨b,2,none⟩=false:=by
 unfold World.cell? World.frozen?
 rw [h]
 simp
theorem ownsRow_far {w:World} {base b o:Nat} {e:TypeId} {size:Nat} {v:Value} {n:Nat} {xs:List Value} (h:w.ownsRow base e size v n xs) (hb:b<base) {u:Value}:(w.setCell ⟨b,o,none⟩ u).ownsRow base e size v n xs:=by
 refine ⟨h.1,?_⟩
 rcases h.2 with h2|⟨g,cap,cur,hv,hg,hh,r⟩
 ·exact .inl h2
 ·exact .inr ⟨g,cap,cur,hv,hg,(heap_set_other (by omega)).trans hh,r⟩
theorem row_cnt {w:World} {base:Nat} {e:TypeId} {v:Value} {n:Nat} {X:List ByteArray} (h:w.ownsRow base e 1 v n (strsV X)):w.ownsRow base e 1 v X.length (strsV X):=by
 have:=h.1
 simp at this
 subst this
 exact h
set_option maxHeartbeats 4000000 in
theorem schCut_any (vd vm:Value) (ds ms:List ByteArray) (g:Int) (w:World) (hd:StrsSl w vd ds) (hm:StrsSl w vm ms) (td:∀s∈ds,s.size≤9223372036854775807) (tm:∀s∈ms,s.size≤9223372036854775807):
  Calls Tryz.prog 13 #[.agg #[vd,vm,.int .i64 g]] w fun e w'=>∃v1 v2,e= .returned (.agg #[v1,v2,.int .i64 g])∧w'.ownsRow w.heap.size 9 1 v1 (txtCut 30 10 ds).length (strsV (txtCut 30 10 ds))∧w'.ownsRow w.heap.size 9 1 v2 (txtCut 30 10 ms).length (strsV (txtCut 30 10 ms))∧Below w.heap.size w w':=by
 obtain ⟨i0,hi,hiz0,hiz1,hiz2⟩:=info_parts info_string
 have HD:=hid hd;have HM:=hid hm
 have HZD:=hid (fun i (hi:i<ds.length)=>td ds[i] (List.getElem_mem hi))
 have HZM:=hid (fun i (hi:i<ms.length)=>tm ms[i] (List.getElem_mem hi))
 obtain ⟨ad,cd,rfl,hcd,hcd2,_⟩:=SlAt.shape hd
 obtain ⟨am,cm,rfl,hcm,hcm2,_⟩:=SlAt.shape hm
 obtain ⟨LD,hLD⟩:∃L,ds.length=L:=⟨_,rfl⟩
 obtain ⟨LM,hLM⟩:∃L,ms.length=L:=⟨_,rfl⟩
 have HLD:=hid hLD;have HLM:=hid hLM
 obtain ⟨N,hN⟩:∃N,min LD 10=N:=⟨_,rfl⟩
 obtain ⟨M,hM⟩:∃M,min LM 10=M:=⟨_,rfl⟩
 have HCN:Hid ((N=LD∨N=10)∧N≤LD∧N≤10):=by unfold Hid;omega
 have HCM:Hid ((M=LM∨M=10)∧M≤LM∧M≤10):=by unfold Hid;omega
 rw [hLD] at hcd ⊢
 rw [hLM] at hcm ⊢
 clear hd hm td tm hLD hLM hN hM
 unfold maxLen at hcd2 hcm2
 go_enter Tryz.func13,Tryz.ntmps13
 go_wp2
 go_loopw [4] (fun i wr=>∃k v,k≤N∧i= .int .i64 (k:Nat)∧wr.heap[w.heap.size+1+1]? =some (.cells #[v,.slice none 0 0,.int .i64 0] 45 (0,0))∧wr.heap[w.heap.size]? =some (.cells #[.slice ad LD cd,.slice am LM cm,.int .i64 g] 45 (0,0))∧wr.heap[w.heap.size+1]? =some (.cells #[.slice none 0 0,.slice none 0 0,.int .i64 0] 45 (0,0))∧wr.ownsRow (w.heap.size+1+1+1) 9 1 v k (strsV ((ds.take k).map (cutS 30)))∧Below w.heap.size w wr) (fun i _=>N-(intOf i).toNat)
 case atStart=>exact ⟨0,_,Nat.zero_le _,rfl,Bk,Bk,Bk,World.ownsRow_nil _ _ _ _,Gr⟩
 case round=>
  obtain ⟨k,v,hk,rfl,hb2,hb0,hb1',hown,hbel⟩:=hrel
  obtain ⟨c20,c21,c22,f20,f21,f22⟩:=three_is hb2
  obtain ⟨c00,c01,c02,_,_,_⟩:=three_is hb0
  by_cases hkN:k<N
  ·have hkL:k<LD:=by have:=HCN.out;omega
   have hk10:k<10:=by have:=HCN.out;omega
   have hlen:k<ds.length:=by rw [HLD.out];exact hkL
   obtain ⟨b,off,rfl,hcell⟩:=(SlAt.parts HD.out).2.2.2.2 (by simp;omega)
   have ck:=hcell k (.string ds[k]) (by rw [List.getElem?_map,List.getElem?_eq_getElem hlen];rfl)
   have hblt:b<w.heap.size:=World.block_lt_of_cell? _ _ ck
   have dk:=cell_step ck hbel
   have hz:=HZD.out k hlen
   have HT:=hid (txt_snoc 30 hlen)
   generalize ds[k]=s at*
   have z2:=blk_lt hb2
   have z0:=blk_lt hb0
   have z3:b<wr.heap.size:=World.block_lt_of_cell? _ _ dk
   have HB:=hid hbel;have HO:=hid hown;have H2:=hid hb2;have H0:=hid hb0;have H1b:=hid hb1';have z1:=blk_lt hb1'
   clear hcell ck hbel hown hb2 hb0 hb1'
   have g1:(0:Int)≤(k:Int):=Int.natCast_nonneg _
   have g2:(k:Int)<(LD:Int):=by omega
   have im:=ite_min
   have q1:(0:Int)≤min (s.size:Int) 30:=by omega
   have q2:min (s.size:Int) 30≤(s.size:Int):=by omega
   have q3:s.extract 0 (min (s.size:Int) 30).toNat=cutS 30 s:=cutS_is 30 s
   go_wp2
   have hS0:(fun w':World=>w'.cell? ⟨w.heap.size,0,none⟩=some (.slice (some ⟨b,off,none⟩) LD cd)∧w'.cell? ⟨w.heap.size+1+1,0,none⟩=some v∧w'.cell? ⟨b,off+k,none⟩=some (.string s)) wr.drew:=⟨c00,c20,dk⟩
   refine wp_region_some (fun w':World=>w'.cell? ⟨w.heap.size,0,none⟩=some (.slice (some ⟨b,off,none⟩) LD cd)∧w'.cell? ⟨w.heap.size+1+1,0,none⟩=some v∧w'.cell? ⟨b,off+k,none⟩=some (.string s)) [16,17,18] (by kernel_rfl) ?_
   refine Tk 0 hS0 ?_
   refine Tk 1 hS0 ?_
   refine Tk 2 hS0 ?_
   refine Tk 3 hS0 ?_
   refine Tk 4 hS0 ?_
   refine Tk 5 hS0 ?_
   refine Tk 6 hS0 ?_
   refine Tk 7 hS0 ?_
   refine Tk 8 hS0 ?_
   refine Tk 9 hS0 ?_
   refine Tk 10 hS0 ?_
   refine Tk 11 hS0 ?_
   refine Tk 12 hS0 ?_
   refine Tk 13 hS0 ?_
   refine Tk 14 hS0 ?_
   refine wpMix_next (t:=15) (by kernel_rfl) ?_
   simp only [opsAt,Ol]
   go_wp2
   refine ⟨⟨by go_simp,by go_simp,by go_simp⟩,?_⟩
   refine wpMix_rest [16,17,18] (by kernel_rfl) ?_
   simp only [opsAt,Ol]
   go_wp2_with (at_builtin;go_loud (refine wpList_append_sl _ rfl _ _ 23 rfl (w.heap.size+1+1+1) 9 i0 (.string { data:= #[]}) 1 16 Tryz.underlying23 hi hiz0 hiz1 hiz2 rfl (by decide) v k _ rfl ((HO.out.alloc _).drew) (.slice (some ⟨wr.heap.size,0,none⟩) 1 1) 1 [.string (cutS 30 s)] rfl ((SlAt.new wr #[.string (cutS 30 s)] 9).drew) (by simp [Value.oneCell']) (by unfold maxLen;omega) (by omega) (by go_size) ?_);intro v1 w1 hown1 hgrow1 hb1;obtain ⟨a1,cp1,rfl,_,_,_⟩:=SlAt.shape (SlAt.own hown1);have hbk:w1.heap[w.heap.size+1+1]? =some (.cells #[v,.slice none 0 0,.int .i64 0] 45 (0,0)):=own_blk ((HO.out.alloc _).drew) hgrow1 (by omega) ((heap_past z2).trans H2.out);have e0:w1.cell? ⟨w.heap.size+1+1,0,none⟩=some v:=(blk_cell hbk).trans rfl;have e1:w1.frozen? ⟨w.heap.size+1+1,0,none⟩=false:=blk_free hbk)
   go_roundw
   case rel=>exact ⟨k+1,_,hkN,by go_num,blk_set hbk,(heap_set_other (by omega)).trans (own_blk ((HO.out.alloc _).drew) hgrow1 (by omega) ((heap_past z0).trans H0.out)),(heap_set_other (by omega)).trans (own_blk ((HO.out.alloc _).drew) hgrow1 (by omega) ((heap_past z1).trans H1b.out)),by rw [HT.out];exact ownsRow_far hown1 (by omega),Below.setCell (own_below ((HO.out.alloc _).drew) hgrow1 (by have:=HB.out;exact Gr) (by omega)) (by simp;omega) _⟩
   case measure=>simp [intOf];omega
  ·obtain rfl:k=N:=by omega
   have hE:strsV ((ds.take k).map (cutS 30))=strsV (txtCut 30 10 ds):=by
    have h1:=HCN.out;have h2:=HLD.out
    unfold txtCut
    rcases h1.1 with h|h
    ·rw [List.take_of_length_le (by omega),List.take_of_length_le (by omega)]
    ·rw [h]
   rw [hE] at hown
   have hv0:StrsSl wr v (txtCut 30 10 ds):=StrsSl.own hown
   have HV0:=hid hown;have HG:=hid (fun g h=>(hown.lt g h).2);have HB:=hid hbel;have H2:=hid hb2;have H0:=hid hb0;have H1b:=hid hb1';have z1:=blk_lt hb1'
   have hex:LD=k∨(k<LD∧k=10):=by have:=HCN.out;omega
   have HEX:=hid hex
   obtain ⟨a0,cp0,rfl,_,_,_⟩:=SlAt.shape hv0
   generalize (txtCut 30 10 ds).length=n0 at*
   have hVs:=hbel.size
   clear hE hown hbel hb2 hb0 hb1' hv0 hex z1
   obtain ⟨V0,hV0⟩:∃V,wr=V:=⟨_,rfl⟩
   rw [hV0] at HV0 HG HB H2 H0 H1b hVs c20 c21 c22 f20 f21 f22 c00 c01 c02 ⊢
   clear hV0
   have zV:=blk_lt H2.out
   obtain ⟨n9,hn9⟩:∃n9,k=n9:=⟨_,rfl⟩
   rw [hn9] at HV0
   clear hn9
   rcases HEX.out with h|⟨h,h10⟩
   all_goals
    first|subst h|skip
    first|subst h10|skip
    go_wp2
    go_loopw [5] (fun i wr=>∃j v,j≤M∧i= .int .i64 (j:Nat)∧wr.heap[w.heap.size+1+1]? =some (.cells #[.slice a0 n0 cp0,v,.int .i64 0] 45 (0,0))∧wr.heap[w.heap.size]? =some (.cells #[.slice ad LD cd,.slice am LM cm,.int .i64 g] 45 (0,0))∧wr.heap[w.heap.size+1]? =some (.cells #[.slice none 0 0,.slice none 0 0,.int .i64 0] 45 (0,0))∧wr.ownsRow V0.heap.size 9 1 v j (strsV ((ms.take j).map (cutS 30)))∧wr.ownsRow (w.heap.size+1+1+1) 9 1 (.slice a0 n0 cp0) n9 (strsV (txtCut 30 10 ds))∧V0.heap.size≤wr.heap.size∧Below w.heap.size w wr) (fun i _=>M-(intOf i).toNat)
    case atStart=>exact ⟨0,_,Nat.zero_le _,rfl,H2.out,H0.out,H1b.out,World.ownsRow_nil _ _ _ _,HV0.out,Nat.le_refl _,HB.out⟩
    case round=>
     obtain ⟨j,v,hj,rfl,hb2,hb0,hb1',hown,hown1',hVw,hbel⟩:=hrel
     clear c20 c21 c22 f20 f21 f22 c00 c01 c02
     obtain ⟨c20,c21,c22,f20,f21,f22⟩:=three_is hb2
     obtain ⟨c00,c01,c02,_,_,_⟩:=three_is hb0
     by_cases hjM:j<M
     ·have hjL:j<LM:=by have:=HCM.out;omega
      have hj10:j<10:=by have:=HCM.out;omega
      have hlen:j<ms.length:=by rw [HLM.out];exact hjL
      obtain ⟨b,off,rfl,hcell⟩:=(SlAt.parts HM.out).2.2.2.2 (by simp;omega)
      have ck:=hcell j (.string ms[j]) (by rw [List.getElem?_map,List.getElem?_eq_getElem hlen];rfl)
      have hblt:b<w.heap.size:=World.block_lt_of_cell? _ _ ck
      have dk:=cell_step ck hbel
      have hz:=HZM.out j hlen
      have HT:=hid (txt_snoc 30 hlen)
      generalize ms[j]=s at*
      have z2:=blk_lt hb2
      have z0:=blk_lt hb0
      have z3:b<wr.heap.size:=World.block_lt_of_cell? _ _ dk
      have HB:=hid hbel;have HO:=hid hown;have H1:=hid hown1';have H2:=hid hb2;have H0:=hid hb0;have H1b:=hid hb1';have z1:=blk_lt hb1'
      clear hcell ck hbel hown hb2 hb0 hb1' hown1'
      have g1:(0:Int)≤(j:Int):=Int.natCast_nonneg _
      have g2:(j:Int)<(LM:Int):=by omega
      have im:=ite_min
      have q1:(0:Int)≤min (s.size:Int) 30:=by omega
      have q2:min (s.size:Int) 30≤(s.size:Int):=by omega
      have q3:s.extract 0 (min (s.size:Int) 30).toNat=cutS 30 s:=cutS_is 30 s
      go_wp2
      have hS0:(fun w':World=>w'.cell? ⟨w.heap.size,1,none⟩=some (.slice (some ⟨b,off,none⟩) LM cm)∧w'.cell? ⟨w.heap.size+1+1,1,none⟩=some v∧w'.cell? ⟨b,off+j,none⟩=some (.string s)) wr.drew:=⟨c01,c21,dk⟩
      refine wp_region_some (fun w':World=>w'.cell? ⟨w.heap.size,1,none⟩=some (.slice (some ⟨b,off,none⟩) LM cm)∧w'.cell? ⟨w.heap.size+1+1,1,none⟩=some v∧w'.cell? ⟨b,off+j,none⟩=some (.string s)) [16,17,18] (by kernel_rfl) ?_
      refine Tk 0 hS0 ?_
      refine Tk 1 hS0 ?_
      refine Tk 2 hS0 ?_
      refine Tk 3 hS0 ?_
      refine Tk 4 hS0 ?_
      refine Tk 5 hS0 ?_
      refine Tk 6 hS0 ?_
      refine Tk 7 hS0 ?_
      refine Tk 8 hS0 ?_
      refine Tk 9 hS0 ?_
      refine Tk 10 hS0 ?_
      refine Tk 11 hS0 ?_
      refine Tk 12 hS0 ?_
      refine Tk 13 hS0 ?_
      refine Tk 14 hS0 ?_
      refine wpMix_next (t:=15) (by kernel_rfl) ?_
      simp only [opsAt,Ol]
      go_wp2
      refine ⟨⟨by go_simp,by go_simp,by go_simp⟩,?_⟩
      refine wpMix_rest [16,17,18] (by kernel_rfl) ?_
      simp only [opsAt,Ol]
      go_wp2_with (at_builtin;go_loud (refine wpList_append_sl _ rfl _ _ 23 rfl V0.heap.size 9 i0 (.string { data:= #[]}) 1 16 Tryz.underlying23 hi hiz0 hiz1 hiz2 rfl (by decide) v j _ rfl ((HO.out.alloc _).drew) (.slice (some ⟨wr.heap.size,0,none⟩) 1 1) 1 [.string (cutS 30 s)] rfl ((SlAt.new wr #[.string (cutS 30 s)] 9).drew) (by simp [Value.oneCell']) (by unfold maxLen;omega) (by omega) (by have:=hVw;simp;omega) ?_);intro v1 w1 hown1 hgrow1 hb1;obtain ⟨a1,cp1,rfl,_,_,_⟩:=SlAt.shape (SlAt.own hown1);have hbk:w1.heap[w.heap.size+1+1]? =some (.cells #[.slice a0 n0 cp0,v,.int .i64 0] 45 (0,0)):=own_blk ((HO.out.alloc _).drew) hgrow1 (by omega) ((heap_past z2).trans H2.out);have e0:w1.cell? ⟨w.heap.size+1+1,1,none⟩=some v:=(blk_cell hbk).trans rfl;have e1:w1.frozen? ⟨w.heap.size+1+1,1,none⟩=false:=blk_free hbk)
      go_roundw
      case rel=>exact ⟨j+1,_,hjM,by go_num,blk_set hbk,(heap_set_other (by omega)).trans (own_blk ((HO.out.alloc _).drew) hgrow1 (by omega) ((heap_past z0).trans H0.out)),(heap_set_other (by omega)).trans (own_blk ((HO.out.alloc _).drew) hgrow1 (by omega) ((heap_past z1).trans H1b.out)),by rw [HT.out];exact ownsRow_far hown1 (by omega),ownsRow_far (((H1.out.alloc _).drew).kept hgrow1 (by cases hg:(Value.slice a0 n0 cp0).ownBlock with|none=>exact .inl rfl|some g=>exact .inr fun e=>by have h1:=HG.out g hg;have h2:=(HO.out.lt g e.symm).1;omega)) (by omega),by have:=hgrow1.size;simp at this ⊢;omega,Below.setCell (own_below ((HO.out.alloc _).drew) hgrow1 (by have:=HB.out;exact Gr) (by omega)) (by simp;omega) _⟩
      case measure=>simp [intOf];omega
     ·obtain rfl:j=M:=by omega
      have hE:strsV ((ms.take j).map (cutS 30))=strsV (txtCut 30 10 ms):=by
       have h1:=HCM.out;have h2:=HLM.out
       unfold txtCut
       rcases h1.1 with h|h
       ·rw [List.take_of_length_le (by omega),List.take_of_length_le (by omega)]
       ·rw [h]
      rw [hE] at hown
      have hv1:StrsSl wr v (txtCut 30 10 ms):=StrsSl.own hown
      obtain ⟨a1,cp1,rfl,_,_,_⟩:=SlAt.shape hv1
      obtain ⟨c10,c11,c12,f10,f11,f12⟩:=three_is hb1'
      have z2:=blk_lt hb2
      have z1:=blk_lt hb1'
      have HV1:=hid hown;have HV2:=hid hown1';have HB2:=hid hbel;have H2':=hid hb2;have H1':=hid hb1'
      have hex:LM=j∨(j<LM∧j=10):=by have:=HCM.out;omega
      have HEX2:=hid hex
      generalize (txtCut 30 10 ms).length=n1 at*
      clear hE hown hown1' hbel hb2 hb0 hb1' hv1 hex
      rcases HEX2.out with h|⟨h,h10⟩
      all_goals
       first|subst h|skip
       first|subst h10|skip
       go_wp2
       ((show bodyPost _ _ _ _ _ _);refine bodyPost_ret (by simp only [results,Tryz.results13];go_simp;try rfl) rfl ?_)
       have x1:=ownsRow_far (b:=w.heap.size+1+1) (o:=2) (u:= .int .i64 g) HV2.out (by omega)
       have x2:=ownsRow_far (b:=w.heap.size+1) (o:=0) (u:= .slice a0 n0 cp0) x1 (by omega)
       have x3:=ownsRow_far (b:=w.heap.size+1) (o:=1) (u:= .slice a1 n1 cp1) x2 (by omega)
       have x4:=(row_cnt (ownsRow_far (b:=w.heap.size+1) (o:=2) (u:= .int .i64 g) x3 (by omega))).base_le (b':=w.heap.size) (by omega)
       have y1:=ownsRow_far (b:=w.heap.size+1+1) (o:=2) (u:= .int .i64 g) HV1.out (by omega)
       have y2:=ownsRow_far (b:=w.heap.size+1) (o:=0) (u:= .slice a0 n0 cp0) y1 (by omega)
       have y3:=ownsRow_far (b:=w.heap.size+1) (o:=1) (u:= .slice a1 n1 cp1) y2 (by omega)
       have y4:=(row_cnt (ownsRow_far (b:=w.heap.size+1) (o:=2) (u:= .int .i64 g) y3 (by omega))).base_le (b':=w.heap.size) (by omega)
       exact ⟨_,_,rfl,x4,y4,by have:=HB2.out;exact Gr⟩
end Go.Proofs.YtejleplhmkmegaaGreatDoor
