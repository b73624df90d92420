/- Texts joined: OtN. -/
import Derived.Test.YtejleplhmkmegaaGreatDoorOr
import Derived.Great.BuildSlice
set_option linter.unusedVariables false
set_option linter.unusedSimpArgs false
namespace Go.Proofs.YtejleplhmkmegaaGreatDoor
set_option maxRecDepth 100000
open Go.ChangeShapes Go.WideShapes Go.ChangeAt Go.RowKit Go.Fl
theorem built_sorter (v0 v1 v2 v3 v4 v5 v6 v7 v8 v9 v10 v11 v12 v13:Value):Tryz.prog.built 74 [(0,.agg #[v0,v1,v2,v3,v4,v5,v6,v7,v8,v9,v10,v11,v12,v13])]=some #[v0,v1,v2,v3,v4,v5,v6,v7,v8,v9,v10,v11,v12,v13]:=by kernel_rfl
theorem wpList_build_one {P:Program} {ops:Array Oper} {rest:List Oper} {o:Oper} {a:Act} {w:World} {Q:Exit→Act→World→Prop} (hg:o.guard=none) (t:TypeId) (x:Operand) (ho:o.op= .build t #[(0,x)])
  (d:Option Tmp) (hd:o.dst=d) (cs cells:Array Value) (hx:a.eval x= .agg cs) (hf:P.built t [(0,.agg cs)]=some cells)
  (h:wpList P ops Q rest (a.put d (.agg cells)) w):wpList P ops Q (o::rest) a w:=
 wpList_buildTo hg t #[(0,x)] ho d hd cells (by simp [hx,hf]) h
theorem nums_sl {w:World} {base:Nat} {vn:Value} {ns:List NumD} (h:w.ownsRow base 63 3 vn ns.length (ns.flatMap NumD.cells)):∃na nc,vn= .slice na ns.length nc∧SlS (fun b=>base≤b∧b<w.heap.size) w vn ns.length 3 (ns.flatMap NumD.cells):=by
 obtain ⟨na,nc,e,_⟩:=SlAt.shape (SlAt.own h)
 refine ⟨na,nc,e,(SlS.own h).keep (fun b hb=> ?_) (fun _ _ _=>rfl)⟩
 exact h.lt b hb
theorem any_not (q:QryD) (k:List ValD) (ns:List NumD):q.having.any (fun c=> !condL c ⟨[],ns⟩)= !holdL q ⟨k,ns⟩:=by
 unfold holdL
 rw [List.not_all_eq_any_not]
 rfl
theorem LnsAt.sl {S:Nat→Prop} {w:World} {B k cap:Nat} {T:List El} (h:LnsAt w B T) (hk:k≤T.length) (hc:k≤cap) (hm:cap≤maxLen) (hS:S B):SlS S w (.slice (some ⟨B,0,none⟩) k cap) k 4 (elCells (T.take k)):=by
 obtain ⟨cur,h1,h2,h3⟩:=h
 have hl:(T.take k).length=k:=by rw [List.length_take];omega
 have hfl:(elCells (T.take k)).length=k*4:=by unfold elCells;rw [flat_len 4 _ (fun _=>rfl),hl]
 refine ⟨hfl,_,cap,rfl,hc,hm,(fun h=>by cases h),fun _=>⟨B,0,rfl,hS,fun j u hj=> ?_⟩⟩
 have hj1:j<k*4:=by rw [←hfl];exact (List.getElem?_eq_some_iff.1 hj).1
 have hi:j/4<(T.take k).length:=by omega
 have e:j=j/4*4+j % 4:=by omega
 have hg:(T.take k)[j/4]? =some (T.take k)[j/4]:=List.getElem?_eq_getElem hi
 have hg2:T[j/4]? =some (T.take k)[j/4]:=by rw [←hg,List.getElem?_take,if_pos (by omega)]
 rw [e] at hj
 unfold elCells at hj
 rw [flat_at 4 (fun e:El=>e.v.cells.toList) (fun _=>rfl) (T.take k) (j/4) (j % 4) (Nat.mod_lt _ (by decide)) hi] at hj
 rw [cell_of_row _ _ _ _ _ _ h1,Nat.zero_add]
 rw [e,h3 (j/4) _ (j % 4) hg2 (Nat.mod_lt _ (by decide)),←hj]
 simp
theorem told_nil (S:Nat→Prop) (w:World) (l:Int):SlS S w (.slice none 0 0) (limN l ([]:List El).length) 4 (elCells (([]:List El).take (limN l ([]:List El).length))):=by
 have h0:limN l ([]:List El).length=0:=by unfold limN;split<;>simp
 rw [h0]
 exact ⟨rfl,none,0,rfl,Nat.le_refl _,by unfold maxLen;omega,fun _=>rfl,fun h=>by simp [elCells] at h⟩
theorem limN_pos {l:Int} {n:Nat} (h:0<l):(min (n:Int) l).toNat=limN l n∧limN l n≤n∧0≤min (n:Int) l∧min (n:Int) l≤(n:Int):=by
 unfold limN
 rw [if_pos h]
 omega
theorem limN_neg {l:Int} {n:Nat} (h:¬0<l):limN l n=n:=by unfold limN;rw [if_neg h]
theorem LnsSt.told {ds ms:List ByteArray} {g:Int} {q:QryD} {L:List (Nat×FilD)} {gs:List GroupD} {w:World} {sc qc:Array Value} {B cap:Nat} {T M:List El} {X Y:World} (h:LnsSt ds ms g q L gs w sc qc (.slice (some ⟨B,0,none⟩) T.length cap) T gs.length X) (hB:w.heap.size+1+1≤B) (hc:T.length≤cap) (hm:cap≤maxLen)
  (hp:M.Perm T) (hs:M.Pairwise (ltE q.order)) (hst:SortSt X Y B M):Below w.heap.size w Y∧Y.heap[w.heap.size+1]? =some (.cells qc 33 (0,0))∧LinesAt ds ms g q gs w.heap.size Y (.slice (some ⟨B,0,none⟩) (limN q.limit T.length) cap) M:=by
 have hix:=h.ix
 rw [List.take_length] at hix
 have hgr:=hst.gr
 have hlt:=lt_of_block h.bq
 refine ⟨h.bel.grown hgr h.bel.size (fun r e=>by cases e;omega),(hgr.block _ hlt (fun e=>by have:=Option.some.inj e;omega)).trans h.bq,⟨by rw [←hix];exact hp.map _,hs,fun e he=>h.td e (hp.mem_iff.1 he),fun e he=> ?_,?_⟩⟩
 ·exact (h.el e (hp.mem_iff.1 he)).keep (fun b hb=>by omega) (fun b hb hl=>hgr.block b hl (fun e2=>hb.2 (by rw [←Option.some.inj e2];rfl)))
 ·rw [hp.length_eq]
  have hk:limN q.limit T.length≤T.length:=by unfold limN;split<;>omega
  exact hst.at_.sl (by rw [hp.length_eq];exact hk) (by omega) hm (by omega)
set_option maxHeartbeats 16000000 in
theorem lines_go (q:QryV) (dq:QryD) (L:List (Nat×FilD)) (vd vm:Value) (la:Option Addr) (lc:Nat) (vs:List GrpV) (gs:List GroupD) (ds ms:List ByteArray) (g:Int) (w:World) (hd:StrsSl w vd ds) (hm:StrsSl w vm ms)
  (hgs:GrpsN (fun _=>True) w (.slice la gs.length lc) vs gs) (gkl:∀d∈gs,d.key.length≤1000000) (gok:∀d∈gs,GrpOk d) (hgl:gs.length≤1000) (hq:QryIs w q dq) (hs:QSm dq) (hcd:∀c∈dq.having,I64 c.op∧I64 c.n) (hty:dq.having.all (condOkB dq.aggs.length)=true) (hlim:I64 dq.limit)
  (HC:∀W,Below w.heap.size w W→Calls Tryz.prog 27 #[.agg #[vd,vm,.int .i64 g],.agg q.cells] W (IntPost (checkQ ds ms g dq L:Nat) W)) (hne:checkQ ds ms g dq L=0)
  (HN:∀W x d,Below w.heap.size w W→d∈gs→GrpN (fun _=>True) W x d→Calls Tryz.prog 28 #[.agg #[vd,vm,.int .i64 g],.agg q.cells,.agg x.cells] W (NumsPost (fstL (numsOf ds ms g dq.aggs d)) (numsErr ds ms g dq L d) W)):
  Calls Tryz.prog 15 #[.agg #[vd,vm,.int .i64 g],.agg q.cells,.slice la gs.length lc] w (LinesPost ds ms g dq L gs w):=by
 unfold LinesPost linesRes
 rw [if_pos hne]
 rw [hne] at HC
 replace HC:=hid HC
 replace HN:=hid HN
 obtain ⟨iL,hiL,hiz0,hiz1,hiz2⟩:=info_parts info_line
 have HG:=hid hgs;have HGK:=hid gkl;have HGO:=hid gok;have HQ:=hid hq;have HSM:=hid hs;have HCD:=hid hcd;have HTY:=hid hty;have HGL:=hid hgl
 have HLIM:=hid hlim
 have hby:q.bn=dq.by_.length:=(SlAt.parts hq.by_).1
 have hlm:=hq.limit
 have HHV:=hid (fun W (h:Below w.heap.size w W)=>SlAt.below hq.having h)
 have HSRT:=hid (fun W B cap T (h1:T.length≤1000000) h2 h3 h4 h5 h6=>sortStable_any q dq.order dq.by_.length (dq.aggs.map aggFl) W W B cap T.length T rfl h1 h2 h3 h4 h5 h6)
 have HST:=hid (fun v T X (h:LnsSt ds ms g dq L gs w #[vd,vm,.int .i64 g] q.cells v T gs.length X) (hT:T≠[])=>h.sort q hq hs hT)
 have HNIL:=hid (fun W=>sortStable_nil (sortV q) W)
 unfold sortV at HSRT HNIL
 obtain ⟨ad,cd,rfl,_,_,_⟩:=SlAt.shape hd
 obtain ⟨am',cm,rfl,_,_,_⟩:=SlAt.shape hm
 obtain ⟨NG,hNG⟩:∃NG,gs.length=NG:=⟨_,rfl⟩
 have HNG:=hid hNG
 have HLE:=hid (fun (T:List El) (v:Value) (X:World) (h:LnsSt ds ms g dq L gs w #[.slice ad ds.length cd,.slice am' ms.length cm,.int .i64 g] q.cells v T gs.length X)=>h)
 rw [hNG] at hgl ⊢
 clear hd hm hgs gkl gok hq hs hcd hty hne hNG hlim
 obtain ⟨aa,LA,ac,ba,LB,bc,mode,sa',LS,sc',every,kind,name,wa,wn,wk,fr,till,fa,fn,fc,ha,LH,hc,oa,LO,oc,limit⟩:=q
 dsimp only [QryV.cells] at*
 subst hby hlm
 go_enter Tryz.func15,Tryz.ntmps15
 go_wp2
 refine wp_scope_fwd ?_
 go_wp2_with (go_at_call 27;go_loud ((with_reducible refine (HC.out _ Gr).mono ?_);rintro e w1 ⟨rfl,hb1⟩))
 have S0:LnsSt ds ms g dq L gs w #[.slice ad ds.length cd,.slice am' ms.length cm,.int .i64 g] #[.slice aa LA ac,.slice ba dq.by_.length bc,.int .i64 mode,.slice sa' LS sc',.int .i64 every,.int .i64 kind,.string name,.slice wa wn wk,.int .i64 fr,.int .i64 till,.slice fa fn fc,.slice ha LH hc,.slice oa LO oc,.int .i64 dq.limit] (.slice none 0 0) [] 0 w1:=
  ⟨blk_below Bk hb1,blk_below Bk hb1,Gr,World.ownsRow_nil _ _ _ _,fun _=>rfl,(fun e he=>by cases he),rfl,(fun e he=>by cases he),rfl⟩
 have HS0:=hid S0
 clear S0 hb1 HC
 go_loopw [8,9,21] (fun ov ev iv wr=>∃(T:List El) (j:Nat),j≤NG∧iv= .int .i64 (j:Int)∧LnsSt ds ms g dq L gs w #[.slice ad ds.length cd,.slice am' ms.length cm,.int .i64 g] #[.slice aa LA ac,.slice ba dq.by_.length bc,.int .i64 mode,.slice sa' LS sc',.int .i64 every,.int .i64 kind,.string name,.slice wa wn wk,.int .i64 fr,.int .i64 till,.slice fa fn fc,.slice ha LH hc,.slice oa LO oc,.int .i64 dq.limit] ov T j wr) (fun _ _ iv _=>NG-(intOf iv).toNat)
 case atStart=>exact ⟨[],0,Nat.zero_le _,rfl,HS0.out⟩
 case round=>as_aux_lemma=>
  obtain ⟨T,j,hj,rfl,hst⟩:=hrel
  by_cases hjN:j<NG
  ·have d1:decide (j<NG)=true:=by simpa using hjN
   have hjg:j<gs.length:=by rw [HNG.out];exact hjN
   obtain ⟨b,off,x,d,rfl,hx,hd,hgn,c0,c1,c2,c3,c4,c5,c6⟩:=(HG.out.below hst.bel).cells hjg
   have hdm:d∈gs:=List.mem_of_getElem? hd
   have hkn:x.kn=d.key.length:=(SlAt.parts hgn.key.sl).1
   have HX:=hid hgn
   have HD:=hid (And.intro hd hdm)
   have HST1:=hid hst
   have HKL:=hid (HGK.out d hdm)
   have hwlt:=hst.bel.size
   have hblt:=World.block_lt_of_cell? _ _ c0
   dsimp only at hblt
   obtain ⟨st,tm,ka,kn,kc,n,sa,sn,sc,ma,mn,mc,xa,xn,xc⟩:=x
   dsimp only at c0 c1 c2 c3 c4 c5 c6 hkn
   subst hkn
   have q1:(0:Int)≤(j:Int):=by omega
   have q2:(j:Int)<(NG:Int):=by omega
   clear hst hx hgn hd hdm hjg
   go_upto_region 8 with (refine wpList_store_blk rfl _ _ _ rfl _ _ rfl rfl _ _ (heap_at rfl) (by exact ginfo7) (by rfl) (by simp [Value.oneCell']) ?_;intro x1 hh1 hg1 hz1)
   simp only [World.size_alloc] at hz1
   try rw [hz1]
   obtain ⟨X,hX⟩:∃X,x1.alloc (.cells #[.slice none 0 0] 35)=X:=⟨_,rfl⟩
   have hBX:Below wr.heap.size wr X:=by
    rw [←hX]
    exact (((Below.refl _ _).new _).grown hg1 (by simp) (fun r e=>by cases e;omega)).alloc (by omega) _
   have hgX:X.heap[wr.heap.size]? =some (.cells #[.int .i64 st,.int .i64 tm,.slice ka d.key.length kc,.int .i64 n,.slice sa sn sc,.slice ma mn mc,.slice xa xn xc] 79 (0,0)):=by rw [←hX];exact (heap_past (by omega)).trans hh1
   have hnX:X.heap[wr.heap.size+1]? =some (.cells #[.slice none 0 0] 35 (0,0)):=by rw [←hX];exact heap_at hz1.symm
   have hzX:X.heap.size=wr.heap.size+2:=by rw [←hX];simp;omega
   rw [hX]
   have S1:=hid (HST1.out.step hBX)
   have HB1:=hid hBX
   clear hX hh1 hg1 hz1 c0 c1 c2 c3 c4 c5 c6 hBX
   have C1:=HN.out X ⟨st,tm,ka,d.key.length,kc,n,sa,sn,sc,ma,mn,mc,xa,xn,xc⟩ d S1.out.bel HD.out.2 (HX.out.below HB1.out)
   unfold NumsPost at C1
   dsimp only [GrpV.cells,GrpV.list] at C1
   have hsp:gs=gs.take j++d::gs.drop (j+1):=by
    obtain ⟨h1,h2⟩:=List.getElem?_eq_some_iff.1 HD.out.1
    rw [←h2,←List.drop_eq_getElem_cons h1,List.take_append_drop]
   have HSP:=hid hsp
   clear hsp
   by_cases hE:numsErr ds ms g dq L d=0
   ·obtain ⟨ns,hns⟩:∃ns,fstL (numsOf ds ms g dq.aggs d)=ns:=⟨_,rfl⟩
    have hlg:lineG ds ms g dq d=⟨d.key,ns⟩:=by unfold lineG;rw [hns]
    have HLG:=hid hlg
    have HNL:Hid (ns.length=dq.aggs.length):=by have:=line_len ds ms g dq d;rw [hlg] at this;exact this
    have HNO:Hid (∀v∈ns,NumOk v):=by have:=line_ok (HGO.out d HD.out.2) ds ms g dq;rw [hlg] at this;exact this
    rw [hns,hE] at C1
    have C2:=hid (C1.mono (R':=fun e w'=>∃na nc,e= .returned (.tuple #[.slice na ns.length nc,.int .i64 0])∧Below X.heap.size X w'∧w'.ownsRow X.heap.size 63 3 (.slice na ns.length nc) ns.length (ns.flatMap NumD.cells)) (fun e w' ⟨v,h1,h2,h3⟩=>by
     rcases h3 with ⟨_,h3⟩|⟨h3,_⟩
     ·obtain ⟨na,nc,rfl,_⟩:=nums_sl h3
      exact ⟨na,nc,h1,h2,h3⟩
     ·exact absurd rfl h3))
    have HE0:=hid hE
    clear C1 hE hns hlg
    go_upto_region 10 with (first
     |(refine wpList_load_row rfl _ _ rfl _ rfl _ _ _ _ S1.out.bs Tryz.underlying45 rfl (by exact sinfo3) ?_)
     |(refine wpList_load_row rfl _ _ rfl _ rfl _ _ _ _ S1.out.bq Tryz.underlying33 rfl (by exact qinfo14) ?_)
     |(refine wpList_load_row rfl _ _ rfl _ rfl _ _ _ _ hgX Tryz.underlying79 rfl (by exact ginfo7) ?_)
     |(go_at_call 28;go_loud ((with_reducible refine C2.out.mono ?_);rintro e x3 ⟨na,nc,rfl,hb3,ho3⟩;have n3:=blk_below hnX hb3;have cn:=cell_blk (i:=0) (x:= .slice none 0 0) n3 rfl;have fn3:=free_blk (i:=0) n3;have hz3:=hb3.size;have HB3:=hid hb3;have HO3:=hid ho3;clear hb3 ho3)))
    obtain ⟨Y,hY⟩:∃Y,x3.setCell ⟨wr.heap.size+1,0,none⟩ (.slice na ns.length nc)=Y:=⟨_,rfl⟩
    have hBY:Below wr.heap.size wr Y:=by rw [←hY];exact (HB1.out.trans (HB3.out.mono (by omega))).setCell (by dsimp only;omega) _
    have gY:Y.heap[wr.heap.size]? =some (.cells #[.int .i64 st,.int .i64 tm,.slice ka d.key.length kc,.int .i64 n,.slice sa sn sc,.slice ma mn mc,.slice xa xn xc] 79 (0,0)):=by rw [←hY];exact (heap_set_other (by omega)).trans (blk_below hgX HB3.out)
    have nY:Y.heap[wr.heap.size+1]? =some (.cells #[.slice na ns.length nc] 35 (0,0)):=by rw [←hY];exact heap_set_same n3
    have hnS:SlS (fun b=>wr.heap.size+2≤b∧b<Y.heap.size) Y (.slice na ns.length nc) ns.length 3 (ns.flatMap NumD.cells):=by
     obtain ⟨_,_,_,h⟩:=nums_sl HO3.out
     refine h.keep (fun b hb=> ?_) (fun b hb _=> ?_)
     ·rw [←hY,World.size_setCell];omega
     ·rw [←hY];exact heap_set_other (by omega)
    have hzY:wr.heap.size+2≤Y.heap.size:=by rw [←hY,World.size_setCell];omega
    rw [hY]
    have SY:=hid (HST1.out.step hBY)
    have HBY:=hid hBY
    have HNS:=hid hnS
    clear hY hBY hnS n3 cn fn3 hz3 HB3 HO3 S1 HB1 hgX hnX hzX C2
    have k2:=cell_blk (i:=2) (x:= .slice ka d.key.length kc) gY rfl
    have k1:=cell_blk (i:=1) (x:= .slice ba dq.by_.length bc) SY.out.bq rfl
    have k11:=cell_blk (i:=11) (x:= .slice ha LH hc) SY.out.bq rfl
    have kn:=cell_blk (i:=0) (x:= .slice na ns.length nc) nY rfl
    by_cases hK:d.key.length=dq.by_.length
    ·have hge:grpErr ds ms g dq L d=0:=by unfold grpErr;rw [if_pos HE0.out,if_pos hK]
     have HGE:=hid hge
     have hk1:decide (d.key.length=dq.by_.length)=true:=by simpa using hK
     have hk3:((d.key.length:Int) !=(dq.by_.length:Int))=false:=by simp;omega
     have hTl:T.length≤1000:=by
      have h1:=congrArg List.length HST1.out.ix
      have h2:=keptI_len ds ms g dq (gs.take j)
      rw [List.length_map] at h1
      rw [List.length_take] at h2
      omega
     have hany:=any_not dq d.key ns
     rw [←HLG.out] at hany
     have CONT:=hid (lcond_cont (wr.heap.size+1) (.slice ha LH hc) dq.having (fun c=> !condL c ⟨[],ns⟩) Y (HHV.out Y SY.out.bel) (by have:=HSM.out.having;omega) (fun c W hc0 hb=>by
      have hco:=List.all_eq_true.1 HTY.out c hc0
      unfold condOkB withinB at hco
      simp only [Bool.and_eq_true,decide_eq_true_eq] at hco
      have hcd:=HCD.out c hc0
      have hal:=HSM.out.aggs
      have hnl:=HNL.out
      exact lines1_any (wr.heap.size+1) na nc ns c W (cell_step kn hb) (SlAt.below HNS.out.sl hb) HNO.out hco.1.1 (by omega) (by omega) hcd.1 hcd.2))
     rw [hany] at CONT
     clear hge hK hany
     have HKN:=hid kn
     cases hH:holdL dq (lineG ds ms g dq d)
     ·rw [hH] at CONT
      have HHF:=hid hH
      clear hH
      go_wp2_with (go_at_call 30;go_loud ((with_reducible refine CONT.out.mono ?_);rintro e x4 ⟨rfl,hb4⟩;have HB4:=hid hb4;clear hb4))
      go_roundw
      case rel=>exact ⟨T,j+1,hjN,by go_num,(SY.out.step HB4.out).skip HD.out.1 HGE.out HHF.out⟩
      case measure=>simp [intOf];omega
     ·rw [hH] at CONT
      have HHF:=hid hH
      clear hH
      have HGY:=hid gY
      have OWN:=hid (fun W (hb:Below Y.heap.size Y W)=>own_any ⟨st,tm,ka,d.key.length,kc,n,sa,sn,sc,ma,mn,mc,xa,xn,xc⟩ d na ns.length nc W ((HX.out.below (HBY.out.step hb))) HKL.out)
      unfold OwnLine at OWN
      dsimp only [GrpV.cells,GrpV.list] at OWN
      clear gY nY
      go_wp2_with (first
       |(go_at_call 30;go_loud ((with_reducible refine CONT.out.mono ?_);rintro e x4 ⟨rfl,hb4⟩;have HB4:=hid hb4;have g4:=blk_below HGY.out hb4;have kn4:=cell_step HKN.out hb4;clear hb4))
       |(refine wpList_load_row rfl _ _ rfl _ rfl _ _ _ _ g4 Tryz.underlying79 rfl (by exact ginfo7) ?_)
       |(go_at_call 31;go_loud ((with_reducible refine (OWN.out _ HB4.out).mono ?_);rintro e x5 ⟨ka5,kc5,rfl,hs5,hb5⟩;have hz4:=HB4.out.size;have hz5:=hb5.size;have HB5:=hid hb5;have HS5:=hid hs5;clear hb5 hs5))
       |(at_builtin;go_loud (refine wpList_append_sl _ rfl _ _ 49 rfl (w.heap.size+1+1) 37 iL (.agg #[.int .i64 0,.int .i64 0,.slice none 0 0,.slice none 0 0]) 4 64 Tryz.underlying49 hiL hiz0 hiz1 hiz2 rfl (by decide) _ T.length _ rfl (((SY.out.step HB4.out).step HB5.out).own.alloc _) (.slice (some ⟨x5.heap.size,0,none⟩) 1 1) 1 [.int .i64 d.st,.int .i64 d.tm,.slice ka5 d.key.length kc5,.slice na ns.length nc] rfl (SlAt.new x5 #[.int .i64 d.st,.int .i64 d.tm,.slice ka5 d.key.length kc5,.slice na ns.length nc] 37) (by simp [Value.oneCell']) (by unfold maxLen;omega) (by omega) (by simp;omega) ?_);intro v1 x7 hown1 hgrow1 hb1))
      have hlt8:=fun b e=>(HST1.out.own.lt b e).2
      have hu:LnN (fun b=>w.heap.size+1+1≤b∧some b≠u8.ownBlock) (x5.alloc (.cells #[.int .i64 d.st,.int .i64 d.tm,.slice ka5 d.key.length kc5,.slice na ns.length nc] 37)) ⟨d.st,d.tm,ka5,d.key.length,kc5,na,ns.length,nc⟩ ⟨d.key,ns⟩:=by
       refine ⟨?_,?_,HNO.out⟩
       ·exact SlS.keep HS5.out (fun b hb=>⟨by omega,fun e=>by have:=hlt8 b e.symm;omega⟩) (fun b _ hl=>heap_past hl)
       ·exact SlS.keep HNS.out (fun b hb=>⟨by omega,fun e=>by have:=hlt8 b e.symm;omega⟩) (fun b hb _=>(heap_past (by omega)).trans ((HB5.out.block b (by omega)).trans (HB4.out.block b (by omega))))
      rw [←HLG.out] at hu
      have HP:=hid ((((SY.out.step HB4.out).step HB5.out).step ((Below.refl _ _).new _)).push HD.out.1 HGE.out HHF.out hu rfl rfl hown1 hgrow1 hb1)
      clear hu hown1 hgrow1 hb1
      go_roundw
      case rel=>exact ⟨_,j+1,hjN,by go_num,HP.out⟩
      case measure=>simp [intOf];omega
    ·have hle:linesErr ds ms g dq L gs=152:=by
      have hge:grpErr ds ms g dq L d=152:=by unfold grpErr;rw [if_pos HE0.out,if_neg hK]
      have:=linesErr_at ds ms g dq L d (gs.drop (j+1)) _ SY.out.er (by rw [hge];decide)
      rw [←HSP.out,hge] at this
      exact this
     have HLE1:=hid hle
     have hk1:decide (d.key.length=dq.by_.length)=false:=by simpa using hK
     have hk2:¬(d.key.length:Int)=(dq.by_.length:Int):=by omega
     have hk3:((d.key.length:Int) !=(dq.by_.length:Int))=true:=by simp;omega
     clear hle
     go_wp2
     (refine wp_goto ?_;go_step;refine jumpFwd_goto rfl ?_;go_wp2)
     (first|rw [jumpFwd_ret]|rw [Exit.noGoto_ret]|skip);((show bodyPost _ _ _ _ _ _);refine bodyPost_ret (by simp only [results,Tryz.results15];go_simp;try rfl) rfl ?_)
     exact ⟨_,by rw [HLE1.out],SY.out.bel,.inl ⟨by rw [HLE1.out];decide,rfl⟩⟩
   ·have hle:linesErr ds ms g dq L gs=numsErr ds ms g dq L d:=by
     have hge:grpErr ds ms g dq L d=numsErr ds ms g dq L d:=by unfold grpErr;rw [if_neg hE]
     have:=linesErr_at ds ms g dq L d (gs.drop (j+1)) _ S1.out.er (by rw [hge];exact hE)
     rw [←HSP.out,hge] at this
     exact this
    have HLE1:=hid hle
    obtain ⟨er,her⟩:∃er,numsErr ds ms g dq L d=er:=⟨_,rfl⟩
    rw [her] at C1 hE HLE1
    have C2:=hid C1
    have HE:=hid hE
    have h1:(er==0)=false:=by simpa using hE
    clear C1 hE hle her
    go_wp2_with (first
     |(refine wpList_load_row rfl _ _ rfl _ rfl _ _ _ _ S1.out.bs Tryz.underlying45 rfl (by exact sinfo3) ?_)
     |(refine wpList_load_row rfl _ _ rfl _ rfl _ _ _ _ S1.out.bq Tryz.underlying33 rfl (by exact qinfo14) ?_)
     |(refine wpList_load_row rfl _ _ rfl _ rfl _ _ _ _ hgX Tryz.underlying79 rfl (by exact ginfo7) ?_)
     |(go_at_call 28;go_loud ((with_reducible refine C2.out.mono ?_);rintro e x3 ⟨vn,rfl,hb3,h3⟩;obtain rfl:vn= .slice none 0 0:=(h3.resolve_left (fun h=>HE.out h.1)).2;have n3:=blk_below hnX hb3;have cn:=cell_blk (i:=0) (x:= .slice none 0 0) n3 rfl;have fn3:=free_blk (i:=0) n3;have hz3:=hb3.size;have HB3:=hid hb3;clear hb3 h3)))
    (refine wp_goto ?_;go_step;refine jumpFwd_goto rfl ?_;go_wp2)
    (first|rw [jumpFwd_ret]|rw [Exit.noGoto_ret]|skip);((show bodyPost _ _ _ _ _ _);refine bodyPost_ret (by simp only [results,Tryz.results15];go_simp;try rfl) rfl ?_)
    exact ⟨_,by rw [HLE1.out],(S1.out.bel.step HB3.out).setCell (by dsimp only;omega) _,.inl ⟨by rw [HLE1.out];exact HE.out,rfl⟩⟩
  ·have d1:decide (j<NG)=false:=by simpa using hjN
   obtain rfl:j=NG:=by omega
   have hst2:LnsSt ds ms g dq L gs w #[.slice ad ds.length cd,.slice am' ms.length cm,.int .i64 g] #[.slice aa LA ac,.slice ba dq.by_.length bc,.int .i64 mode,.slice sa' LS sc',.int .i64 every,.int .i64 kind,.string name,.slice wa wn wk,.int .i64 fr,.int .i64 till,.slice fa fn fc,.slice ha LH hc,.slice oa LO oc,.int .i64 dq.limit] u8 T gs.length wr:=by rw [HNG.out];exact hst
   have hle:linesErr ds ms g dq L gs=0:=by have:=hst2.er;rwa [List.take_length] at this
   have HLE1:=hid hle
   have HS2:=hid hst2
   have im:=ite_min
   clear hst hle
   by_cases hT:T=[]
   ·subst hT
    obtain rfl:=hst2.nl rfl
    have hkp:keptI ds ms g dq gs=[]:=by have:=hst2.ix;rw [List.take_length] at this;exact this.symm
    have HKP:=hid hkp
    clear hst2 hkp
    have k13:=cell_blk (i:=13) (x:= .int .i64 dq.limit) HS2.out.bq rfl
    have hwl:=HS2.out.bel.size
    by_cases hl:0<dq.limit
    ·have hl1:decide (0<dq.limit)=true:=by simpa using hl
     have m1:(min (0:Int) dq.limit)=0:=by omega
     go_wp2_with (first
      |(refine wpList_load_row rfl _ _ rfl _ rfl _ _ _ _ HS2.out.bq Tryz.underlying33 rfl (by exact qinfo14) ?_)
      |(refine wpList_build_one rfl 74 _ rfl _ rfl _ _ rfl (built_sorter _ _ _ _ _ _ _ _ _ _ _ _ _ _) ?_)
      |(go_at_call 32;go_loud ((with_reducible refine (HNIL.out _).mono ?_);rintro e x3 ⟨rfl,rfl⟩)))
     (first|rw [jumpFwd_ret]|rw [Exit.noGoto_ret]|skip);((show bodyPost _ _ _ _ _ _);refine bodyPost_ret (by simp only [results,Tryz.results15];go_simp;try rfl) rfl ?_)
     exact ⟨_,by rw [HLE1.out],HS2.out.bel,.inr ⟨HLE1.out,[],by rw [HKP.out];exact List.Perm.refl _,List.Pairwise.nil,(fun e he=>by cases he),(fun e he=>by cases he),told_nil _ _ _⟩⟩
    ·have hl1:decide (0<dq.limit)=false:=by simpa using hl
     go_wp2_with (first
      |(refine wpList_load_row rfl _ _ rfl _ rfl _ _ _ _ HS2.out.bq Tryz.underlying33 rfl (by exact qinfo14) ?_)
      |(refine wpList_build_one rfl 74 _ rfl _ rfl _ _ rfl (built_sorter _ _ _ _ _ _ _ _ _ _ _ _ _ _) ?_)
      |(go_at_call 32;go_loud ((with_reducible refine (HNIL.out _).mono ?_);rintro e x3 ⟨rfl,rfl⟩)))
     (first|rw [jumpFwd_ret]|rw [Exit.noGoto_ret]|skip);((show bodyPost _ _ _ _ _ _);refine bodyPost_ret (by simp only [results,Tryz.results15];go_simp;try rfl) rfl ?_)
     exact ⟨_,by rw [HLE1.out],HS2.out.bel,.inr ⟨HLE1.out,[],by rw [HKP.out];exact List.Perm.refl _,List.Pairwise.nil,(fun e he=>by cases he),(fun e he=>by cases he),told_nil _ _ _⟩⟩
   ·obtain ⟨B,cap,rfl,hB,hnc,hcm,hss,hok,hpw,hlen⟩:=HST.out _ T wr hst2 hT
    have C1:=hid (HSRT.out wr B cap T (by have:=HGL.out;omega) hnc hcm hpw hok hss)
    unfold StablePost at C1
    have HNC:=hid (And.intro hB (And.intro hnc hcm))
    have hcm2:cap≤9223372036854775807:=hcm
    clear hst2 hss hok hpw hT hcm
    by_cases hl:0<dq.limit
    ·have hl1:decide (0<dq.limit)=true:=by simpa using hl
     obtain ⟨m1,m2,m3,m4⟩:=limN_pos (n:=T.length) hl
     have m5:min (T.length:Int) dq.limit≤(cap:Int):=by omega
     go_wp2_with (first
      |(refine wpList_load_row rfl _ _ rfl _ rfl _ _ _ _ HS2.out.bq Tryz.underlying33 rfl (by exact qinfo14) ?_)
      |(refine wpList_build_one rfl 74 _ rfl _ rfl _ _ rfl (built_sorter _ _ _ _ _ _ _ _ _ _ _ _ _ _) ?_)
      |(go_at_call 32;go_loud ((with_reducible refine C1.out.mono ?_);rintro e x3 ⟨rfl,M,hp,hs,hst⟩;have HF:=hid (HS2.out.told HNC.out.1 HNC.out.2.1 HNC.out.2.2 hp hs hst);have k13:=cell_blk (i:=13) (x:= .int .i64 dq.limit) HF.out.2.1 rfl;clear hp hs hst)))
     (first|rw [jumpFwd_ret]|rw [Exit.noGoto_ret]|skip);((show bodyPost _ _ _ _ _ _);refine bodyPost_ret (by simp only [results,Tryz.results15];go_simp;try rfl) rfl ?_)
     exact ⟨_,by rw [HLE1.out],HF.out.1,.inr ⟨HLE1.out,M,HF.out.2.2⟩⟩
    ·have hl1:decide (0<dq.limit)=false:=by simpa using hl
     have HLN:=hid (limN_neg (n:=T.length) hl)
     go_wp2_with (first
      |(refine wpList_load_row rfl _ _ rfl _ rfl _ _ _ _ HS2.out.bq Tryz.underlying33 rfl (by exact qinfo14) ?_)
      |(refine wpList_build_one rfl 74 _ rfl _ rfl _ _ rfl (built_sorter _ _ _ _ _ _ _ _ _ _ _ _ _ _) ?_)
      |(go_at_call 32;go_loud ((with_reducible refine C1.out.mono ?_);rintro e x3 ⟨rfl,M,hp,hs,hst⟩;have HF:=hid (HS2.out.told HNC.out.1 HNC.out.2.1 HNC.out.2.2 hp hs hst);have k13:=cell_blk (i:=13) (x:= .int .i64 dq.limit) HF.out.2.1 rfl;clear hp hs hst)))
     (first|rw [jumpFwd_ret]|rw [Exit.noGoto_ret]|skip);((show bodyPost _ _ _ _ _ _);refine bodyPost_ret (by simp only [results,Tryz.results15];go_simp;try rfl) rfl ?_)
     exact ⟨_,by rw [HLE1.out],HF.out.1,.inr ⟨HLE1.out,M,by have:=HF.out.2.2;rw [HLN.out] at this;exact this⟩⟩
end Go.Proofs.YtejleplhmkmegaaGreatDoor
