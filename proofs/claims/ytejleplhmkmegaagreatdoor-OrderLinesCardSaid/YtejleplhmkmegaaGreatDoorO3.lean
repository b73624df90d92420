/- Texts joined: OuM. -/
import Derived.Test.YtejleplhmkmegaaGreatDoorOy
import Derived.Test.YtejleplhmkmegaaGreatDoorO1
import Derived.Test.YtejleplhmkmegaaGreatDoorO2
import Derived.Test.YtejleplhmkmegaaGreatDoorOs
import Derived.Test.YtejleplhmkmegaaGreatDoorOo
import Derived.Test.YtejleplhmkmegaaGreatDoorOw
set_option linter.unusedVariables false
set_option linter.unusedSimpArgs false
namespace Go.Proofs.YtejleplhmkmegaaGreatDoor
set_option maxRecDepth 100000
open Go.ChangeShapes Go.WideShapes Go.ChangeAt Go.RowKit Go.Fl
structure RLinesAt (ds ms:List ByteArray) (g:Int) (q:QryD) (gs:List GroupD) (base:Nat) (w':World) (v:Value) (T:List El):Prop where
 perm:(T.map (·.i)).Perm (keptI ds ms g q gs)
 sorted:T.Pairwise (ltE q.order)
 td:∀e∈T,ToldE ds ms g q gs e
 el:∀e∈T,LnIs w' e.v e.l
 at_:SlS (fun b=>base≤b) w' v (limN q.limit T.length) 4 (elCells (T.take (limN q.limit T.length)))
def RLinesPost (ds ms:List ByteArray) (g:Int) (q:QryD) (L:List (Nat×FilD)) (gs:List GroupD) (w:World) (e:Ending) (w':World):Prop:=
 ∃v,e= .returned (.tuple #[v,.int .i64 (linesRes ds ms g q L gs)])∧Below w.heap.size w w'∧
  ((linesRes ds ms g q L gs≠0∧v= .slice none 0 0)∨(linesRes ds ms g q L gs=0∧∃T,RLinesAt ds ms g q gs w.heap.size w' v T))
structure RLn (ds ms:List ByteArray) (g:Int) (q:QryD) (L:List (Nat×FilD)) (gs:List GroupD) (w:World) (sc qc:Array Value) (v:Value) (T:List El) (j:Nat) (X:World):Prop where
 bs:X.heap[w.heap.size]? =some (.cells sc 45 (0,0))
 bq:X.heap[w.heap.size+1]? =some (.cells qc 33 (0,0))
 bel:Below w.heap.size w X
 at_:SlS (fun b=>w.heap.size≤b) X v T.length 4 (elCells T)
 el:∀e∈T,LnIs X e.v e.l
 ix:(T.map (·.i)).Perm (keptI ds ms g q (gs.take j))
 so:T.Pairwise (ltE q.order)
 td:∀e∈T,ToldE ds ms g q gs e
 er:linesErr ds ms g q L (gs.take j)=0
theorem RLn.step {ds ms:List ByteArray} {g:Int} {q:QryD} {L:List (Nat×FilD)} {gs:List GroupD} {w:World} {sc qc:Array Value} {v:Value} {T:List El} {j:Nat} {X Y:World} (h:RLn ds ms g q L gs w sc qc v T j X) (hb:Below X.heap.size X Y):RLn ds ms g q L gs w sc qc v T j Y:=
 ⟨blk_below h.bs hb,blk_below h.bq hb,h.bel.step hb,h.at_.keep (fun _ h=>h) (fun b _ hl=>hb.block b hl),fun e he=>(h.el e he).below hb,h.ix,h.so,h.td,h.er⟩
theorem RLn.skip {ds ms:List ByteArray} {g:Int} {q:QryD} {L:List (Nat×FilD)} {gs:List GroupD} {w:World} {sc qc:Array Value} {v:Value} {T:List El} {j:Nat} {X:World} (h:RLn ds ms g q L gs w sc qc v T j X) {d:GroupD} (hd:gs[j]? =some d) (he:grpErr ds ms g q L d=0) (hh:holdL q (lineG ds ms g q d)=false):RLn ds ms g q L gs w sc qc v T (j+1) X:=
 ⟨h.bs,h.bq,h.bel,h.at_,h.el,by rw [take_snoc hd,keptI_snoc,hh];simpa using h.ix,h.so,h.td,by rw [take_snoc hd,linesErr_snoc _ _ _ _ _ _ _ h.er,he]⟩
theorem RLn.lt {ds ms:List ByteArray} {g:Int} {q:QryD} {L:List (Nat×FilD)} {gs:List GroupD} {w:World} {sc qc:Array Value} {v:Value} {T:List El} {j:Nat} {X:World} (h:RLn ds ms g q L gs w sc qc v T j X) {e:El} (he:e∈T):e.i<j:=by
 have h1:=h.ix.mem_iff.1 (List.mem_map.2 ⟨e,he,rfl⟩)
 unfold keptI at h1
 have h2:=List.mem_range.1 (List.mem_filter.1 h1).1
 rw [List.length_take] at h2
 omega
theorem elCells_one (l:List El):∀u∈elCells l,u.oneCell'=true:=by
 intro u hu
 obtain ⟨e,_,he⟩:=List.mem_flatMap.1 hu
 simp [LnV.cells] at he
 rcases he with rfl|rfl|rfl|rfl<;>rfl
theorem SlAt.grown_nil {w w':World} {v:Value} {n size:Nat} {cs:List Value} (h:SlAt w v n size cs) (hg:w.drew.grownBy w' none):SlAt w' v n size cs:=by
 obtain ⟨h0,ao,cap,rfl,h1,h2,h3,h4⟩:=h
 refine ⟨h0,ao,cap,rfl,h1,h2,h3,fun hl=> ?_⟩
 obtain ⟨b,off,rfl,hc⟩:=h4 hl
 refine ⟨b,off,rfl,fun j u hj=> ?_⟩
 have hx:=hc j u hj
 rw [←hx]
 have hb:=hg.block b (World.block_lt_of_cell? _ _ hx) (fun e=>by cases e)
 simp only [World.cell?]
 rw [hb]
 rfl
theorem RLn.put {ds ms:List ByteArray} {g:Int} {q:QryD} {L:List (Nat×FilD)} {gs:List GroupD} {w:World} {sc qc:Array Value} {v v':Value} {T:List El} {j p:Nat} {X Y:World} (h:RLn ds ms g q L gs w sc qc v T j X) {d:GroupD} (hd:gs[j]? =some d) (he:grpErr ds ms g q L d=0) (hh:holdL q (lineG ds ms g q d)=true)
  {u:LnV} (hu:LnIs X u (lineG ds ms g q d)) (h1:u.st=d.st) (h2:u.tm=d.tm) (hp:p≤T.length)
  (hlo:∀e,0<p→T[p-1]? =some e→¬cmpK q.order (lineG ds ms g q d) e.l<0) (hhi:∀i e,p≤i→T[i]? =some e→cmpK q.order (lineG ds ms g q d) e.l<0)
  (hb:Below X.heap.size X Y) (ho:SlS (fun b=>w.heap.size≤b) Y v' (T.length+1) 4 (elCells (T.take p++[⟨u,lineG ds ms g q d,j⟩]++T.drop p))):RLn ds ms g q L gs w sc qc v' (T.take p++[⟨u,lineG ds ms g q d,j⟩]++T.drop p) (j+1) Y:=by
 have hF:∀e∈T,FormE q.by_.length (q.aggs.map aggFl) e:=fun e hm=>by
  obtain ⟨d',hd',_,_,hl⟩:=h.td e hm
  have hj:=h.lt hm
  unfold FormE
  rw [hl]
  refine line_form (linesErr_all h.er d' (List.mem_of_getElem? (i:=e.i) ?_))
  rw [List.getElem?_take,if_pos hj]
  exact hd'
 have hFx:FormE q.by_.length (q.aggs.map aggFl) (⟨u,lineG ds ms g q d,j⟩:El):=line_form he
 have hbel:=h.bel.step hb
 have hTp:(T.take p++[(⟨u,lineG ds ms g q d,j⟩:El)]++T.drop p).Perm (T++[⟨u,lineG ds ms g q d,j⟩]):=by
  have e1:T++[(⟨u,lineG ds ms g q d,j⟩:El)]=T.take p++T.drop p++[⟨u,lineG ds ms g q d,j⟩]:=by rw [List.take_append_drop]
  rw [e1,List.append_assoc,List.append_assoc]
  exact (List.perm_append_comm).append_left _
 refine ⟨blk_below h.bs hb,blk_below h.bq hb,hbel,?_,fun e hm=> ?_,?_,?_,fun e hm=> ?_,by rw [take_snoc hd,linesErr_snoc _ _ _ _ _ _ _ h.er,he]⟩
 ·have hl:(T.take p++[(⟨u,lineG ds ms g q d,j⟩:El)]++T.drop p).length=T.length+1:=by rw [hTp.length_eq];simp
  rw [hl]
  exact ho
 ·rcases List.mem_append.1 (hTp.mem_iff.1 hm) with hm|hm
  ·exact (h.el e hm).below hb
  ·rw [List.mem_singleton] at hm
   subst hm
   exact hu.below hb
 ·rw [take_snoc hd,keptI_snoc,hh,take_len hd]
  refine (hTp.map _).trans ?_
  rw [List.map_append]
  exact h.ix.append_right _
 ·have hso:=h.so
  rw [List.append_assoc]
  have hall:∀i e,i<p→T[i]? =some e→ltE q.order e ⟨u,lineG ds ms g q d,j⟩:=by
   intro i e hi hie
   obtain ⟨f,hf⟩:∃f,T[p-1]? =some f:=⟨_,List.getElem?_eq_getElem (by omega)⟩
   have hm:=List.mem_of_getElem? hie
   have hfm:=List.mem_of_getElem? hf
   have h3:ltE q.order f ⟨u,lineG ds ms g q d,j⟩:=(ltE_not (hF f hfm) hFx (h.lt hfm)).1 (fun hc=>hlo f (by omega) hf ((ltE_cmp (h.lt hfm)).1 hc))
   by_cases hip:i=p-1
   ·subst hip
    rw [hf] at hie
    cases hie
    exact h3
   ·obtain ⟨hl1,e1⟩:=List.getElem?_eq_some_iff.1 hie
    obtain ⟨hl2,e2⟩:=List.getElem?_eq_some_iff.1 hf
    have h4:=List.pairwise_iff_getElem.1 hso i (p-1) hl1 hl2 (by omega)
    rw [e1,e2] at h4
    exact ltE_trans (hF e hm) (hF f hfm) hFx h4 h3
  have hbeh:∀i e,p≤i→T[i]? =some e→ltE q.order ⟨u,lineG ds ms g q d,j⟩ e:=fun i e hi hie=>(ltE_cmp (h.lt (List.mem_of_getElem? hie))).2 (hhi i e hi hie)
  refine List.pairwise_append.2 ⟨hso.sublist (List.take_sublist _ _),?_,?_⟩
  ·rw [List.singleton_append,List.pairwise_cons]
   refine ⟨fun e hm=> ?_,hso.sublist (List.drop_sublist _ _)⟩
   obtain ⟨i,hi,rfl⟩:=List.mem_iff_getElem.1 hm
   exact hbeh (p+i) _ (by omega) (by rw [List.getElem_drop];exact List.getElem?_eq_getElem (by rw [List.length_drop] at hi;omega))
  ·intro a ha b hb'
   obtain ⟨i,hi,rfl⟩:=List.mem_iff_getElem.1 ha
   rw [List.length_take] at hi
   have hai:T[i]? =some (T.take p)[i]:=by rw [List.getElem_take];exact List.getElem?_eq_getElem (by omega)
   rw [List.singleton_append] at hb'
   rcases List.mem_cons.1 hb' with rfl|hb'
   ·exact hall i _ (by omega) hai
   ·obtain ⟨k,hk,rfl⟩:=List.mem_iff_getElem.1 hb'
    rw [List.length_drop] at hk
    rw [List.getElem_drop,List.getElem_take]
    exact List.pairwise_iff_getElem.1 hso i (p+k) (by omega) (by omega) (by omega)
 ·rcases List.mem_append.1 (hTp.mem_iff.1 hm) with hm|hm
  ·exact h.td e hm
  ·rw [List.mem_singleton] at hm
   subst hm
   exact ⟨d,hd,h1,h2,rfl⟩
theorem refLines_early (q:QryV) (dq:QryD) (L:List (Nat×FilD)) (vd vm vl:Value) (ds ms:List ByteArray) (g:Int) (gs:List GroupD) (w:World) (hd:StrsSl w vd ds) (hm:StrsSl w vm ms)
  (HC:∀W,Below w.heap.size w W→Calls Tryz.prog 33 #[.agg #[vd,vm,.int .i64 g],.agg q.cells] W (IntPost (checkQ ds ms g dq L:Nat) W)) (hne:checkQ ds ms g dq L≠0):
  Calls Tryz.prog 16 #[.agg #[vd,vm,.int .i64 g],.agg q.cells,vl] w (RLinesPost ds ms g dq L gs w):=by
 unfold RLinesPost linesRes
 rw [if_neg hne]
 replace HC:=hid HC
 obtain ⟨r,hr⟩:∃r,checkQ ds ms g dq L=r:=⟨_,rfl⟩
 rw [hr] at HC hne ⊢
 obtain ⟨ad,cd,rfl,_,_,_⟩:=SlAt.shape hd
 obtain ⟨am',cm,rfl,_,_,_⟩:=SlAt.shape hm
 have h1:((r:Int)==0)=false:=by simpa using hne
 have h2:¬(r:Int)=0:=by omega
 have H2:=hid h2
 clear hd hm hr
 obtain ⟨aa,LA,ac,ba,LB,bc,mode,sa',LS,sc',every,kind,name,wa,wn,wk,fr,till,la,ln,lc,ha,LH,hc,oa,LO,oc,limit⟩:=q
 dsimp only [QryV.cells] at*
 go_enter Tryz.func16,Tryz.ntmps16
 go_wp2_with (go_at_call 33;go_loud ((with_reducible refine (HC.out _ Gr).mono ?_);rintro e w1 ⟨rfl,hb1⟩))
 go_ret2
 exact ⟨_,rfl,Gr,.inl ⟨H2.out,rfl⟩⟩
set_option maxHeartbeats 16000000 in
theorem refLines_go (q:QryV) (dq:QryD) (L:List (Nat×FilD)) (vd vm:Value) (la:Option Addr) (lc:Nat) (vs:List GrpV) (gs:List GroupD) (ds ms:List ByteArray) (g:Int) (w:World) (hd:StrsSl w vd ds) (hm:StrsSl w vm ms)
  (hgs:GrpsN (fun _=>True) w (.slice la gs.length lc) vs gs) (gkl:∀d∈gs,d.key.length≤1000000∧∀v∈d.key,v.s.size≤9223372036854775807) (gok:∀d∈gs,GrpOk d) (hgl:gs.length≤1000) (hq:QryIs w q dq) (hs:QSm dq) (hcd:∀c∈dq.having,I64 c.op∧I64 c.n) (hty:dq.having.all (condOkB dq.aggs.length)=true)
  (HC:∀W,Below w.heap.size w W→Calls Tryz.prog 33 #[.agg #[vd,vm,.int .i64 g],.agg q.cells] W (IntPost (checkQ ds ms g dq L:Nat) W)) (hne:checkQ ds ms g dq L=0)
  (HN:∀W x d,Below w.heap.size w W→d∈gs→GrpN (fun _=>True) W x d→Calls Tryz.prog 34 #[.agg #[vd,vm,.int .i64 g],.agg q.cells,.agg x.cells] W (NumsPost (fstL (numsOf ds ms g dq.aggs d)) (numsErr ds ms g dq L d) W)):
  Calls Tryz.prog 16 #[.agg #[vd,vm,.int .i64 g],.agg q.cells,.slice la gs.length lc] w (RLinesPost ds ms g dq L gs w):=by
 unfold RLinesPost linesRes
 rw [if_pos hne]
 rw [hne] at HC
 replace HC:=hid HC
 replace HN:=hid HN
 obtain ⟨iL,hiL,hiz0,hiz1,hiz2⟩:=info_parts info_line
 have HG:=hid hgs;have HGK:=hid gkl;have HGO:=hid gok;have HQ:=hid hq;have HSM:=hid hs;have HCD:=hid hcd;have HTY:=hid hty;have HGL:=hid hgl
 have hby:q.bn=dq.by_.length:=(SlAt.parts hq.by_).1
 have hlm:=hq.limit
 obtain ⟨p15,p16,e4,p17,p18,p19,hA4⟩:=cond_parts hq.having
 have HA4:=hid hA4
 have HAH:=hid (fun (va vb:LnV) (a b:LineD) W (h:Below w.heap.size w W) (ha:LnIs W va a) (hb:LnIs W vb b) (ta:KeySz a) (tb:KeySz b)=>refAhead18_any q va vb dq.order a b W (hq.order.below h) (by have:=hs.order;omega) ha hb ta tb)
 obtain ⟨ad,cd,rfl,_,_,_⟩:=SlAt.shape hd
 obtain ⟨am',cm,rfl,_,_,_⟩:=SlAt.shape hm
 obtain ⟨NG,hNG⟩:∃NG,gs.length=NG:=⟨_,rfl⟩
 have HNG:=hid hNG
 rw [hNG] at hgl ⊢
 obtain ⟨aa,LA,ac,ba,LB,bc,mode,sa',LS,sc',every,kind,name,wa,wn,wk,fr,till,fa,fn,fc,ha,LH,hc,oa,LO,oc,limit⟩:=q
 dsimp only [QryV.cells] at*
 subst hby hlm
 simp only [Value.slice.injEq] at e4
 obtain ⟨rfl,rfl,rfl⟩:=e4
 obtain ⟨LH,hLH⟩:∃n,dq.having.length=n:=⟨_,rfl⟩
 have HLH:=hid hLH
 have hlh6:LH≤1000:=by have:=hs.having;omega
 rw [hLH] at HC HN HAH p17 ⊢
 clear hd hm hgs gkl gok hq hs hcd hty hne hNG hA4 hLH p19
 go_enter Tryz.func16,Tryz.ntmps16
 go_wp2_with (go_at_call 33;go_loud ((with_reducible refine (HC.out _ Gr).mono ?_);rintro e w1 ⟨rfl,hb1⟩;have HS0:=hid (show RLn ds ms g dq L gs w #[.slice ad ds.length cd,.slice am' ms.length cm,.int .i64 g] #[.slice aa LA ac,.slice ba dq.by_.length bc,.int .i64 mode,.slice sa' LS sc',.int .i64 every,.int .i64 kind,.string name,.slice wa wn wk,.int .i64 fr,.int .i64 till,.slice fa fn fc,.slice ha LH hc,.slice oa LO oc,.int .i64 dq.limit] (.slice none 0 0) [] 0 w1 from ⟨blk_below Bk hb1,blk_below Bk hb1,Gr,⟨rfl,none,0,rfl,Nat.le_refl _,by unfold maxLen;omega,fun _=>rfl,fun h=>by simp [elCells] at h⟩,(fun e he=>by cases he),List.Perm.refl _,List.Pairwise.nil,(fun e he=>by cases he),rfl⟩);have hz1:=hb1.size;clear hb1))
 clear HC
 go_loopw [9,10,11,12,13,14,15,16,17] (fun ov iv _ _ _ _ _ _ _ wr=>∃(T:List El) (j:Nat),j≤NG∧iv= .int .i64 (j:Int)∧RLn ds ms g dq L gs w #[.slice ad ds.length cd,.slice am' ms.length cm,.int .i64 g] #[.slice aa LA ac,.slice ba dq.by_.length bc,.int .i64 mode,.slice sa' LS sc',.int .i64 every,.int .i64 kind,.string name,.slice wa wn wk,.int .i64 fr,.int .i64 till,.slice fa fn fc,.slice ha LH hc,.slice oa LO oc,.int .i64 dq.limit] ov T j wr) (fun _ iv _ _ _ _ _ _ _ _=>NG-(intOf iv).toNat)
 case atStart=>exact ⟨[],0,Nat.zero_le _,rfl,HS0.out⟩
 case round=>as_aux_lemma=>
  obtain ⟨T,j,hj,rfl,hst⟩:=hrel
  have q1:(0:Int)≤(j:Int):=by omega
  have HST:=hid hst
  obtain ⟨oa',oc',rfl,hoc1,hoc2,_⟩:=SlAt.shape hst.at_.sl
  by_cases hjN:j<NG
  ·have d1:decide (j<NG)=true:=by simpa using hjN
   have hjg:j<gs.length:=by rw [HNG.out];exact hjN
   obtain ⟨b,off,x,d,rfl,hx,hd,hgn,c0,c1,c2,c3,c4,c5,c6⟩:=(HG.out.below hst.bel).cells hjg
   have hdm:d∈gs:=List.mem_of_getElem? hd
   have hkn:x.kn=d.key.length:=(SlAt.parts hgn.key.sl).1
   have HX:=hid hgn
   have HD:=hid (And.intro hd hdm)
   have HKL:=hid (HGK.out d hdm)
   have hwlt:=hst.bel.size
   have hTl:T.length≤1000:=by
    have h1:=hst.ix.length_eq
    have h2:=keptI_len ds ms g dq (gs.take j)
    rw [List.length_map] at h1
    rw [List.length_take] at h2
    omega
   have C1:=HN.out
   obtain ⟨st,tm,ka,kn,kc,n,sa,sn,sc,ma,mn,mc,xa,xn,xc⟩:=x
   dsimp only at c0 c1 c2 c3 c4 c5 c6 hkn
   subst hkn
   have q2:(j:Int)<(NG:Int):=by omega
   have hblt:=World.block_lt_of_cell? _ _ c0
   dsimp only at hblt
   have C1:=HN.out wr.drew ⟨st,tm,ka,d.key.length,kc,n,sa,sn,sc,ma,mn,mc,xa,xn,xc⟩ d hst.bel.drew hdm (hgn.below (Below.drew (Below.refl _ _)))
   unfold NumsPost at C1
   dsimp only [GrpV.cells,GrpV.list] at C1
   clear hx hgn hd hdm hjg hst
   go_upto_region 8 with fail
   have hS0:(fun w':World=>w'.heap[w.heap.size]? =some (.cells #[.slice ad ds.length cd,.slice am' ms.length cm,.int .i64 g] 45 (0,0))∧w'.heap[w.heap.size+1]? =some (.cells #[.slice aa LA ac,.slice ba dq.by_.length bc,.int .i64 mode,.slice sa' LS sc',.int .i64 every,.int .i64 kind,.string name,.slice wa wn wk,.int .i64 fr,.int .i64 till,.slice fa fn fc,.slice ha LH hc,.slice oa LO oc,.int .i64 dq.limit] 33 (0,0))∧w'.cell? ⟨b,off+j*7,none⟩=some (.int .i64 st)∧w'.cell? ⟨b,off+j*7+1,none⟩=some (.int .i64 tm)∧w'.cell? ⟨b,off+j*7+2,none⟩=some (.slice ka d.key.length kc)∧w'.cell? ⟨b,off+j*7+3,none⟩=some (.int .i64 n)∧w'.cell? ⟨b,off+j*7+4,none⟩=some (.slice sa sn sc)∧w'.cell? ⟨b,off+j*7+5,none⟩=some (.slice ma mn mc)∧w'.cell? ⟨b,off+j*7+6,none⟩=some (.slice xa xn xc)) wr.drew:=⟨HST.out.bs,HST.out.bq,c0,c1,c2,c3,c4,c5,c6⟩
   refine wp_region_some (fun w':World=>w'.heap[w.heap.size]? =some (.cells #[.slice ad ds.length cd,.slice am' ms.length cm,.int .i64 g] 45 (0,0))∧w'.heap[w.heap.size+1]? =some (.cells #[.slice aa LA ac,.slice ba dq.by_.length bc,.int .i64 mode,.slice sa' LS sc',.int .i64 every,.int .i64 kind,.string name,.slice wa wn wk,.int .i64 fr,.int .i64 till,.slice fa fn fc,.slice ha LH hc,.slice oa LO oc,.int .i64 dq.limit] 33 (0,0))∧w'.cell? ⟨b,off+j*7,none⟩=some (.int .i64 st)∧w'.cell? ⟨b,off+j*7+1,none⟩=some (.int .i64 tm)∧w'.cell? ⟨b,off+j*7+2,none⟩=some (.slice ka d.key.length kc)∧w'.cell? ⟨b,off+j*7+3,none⟩=some (.int .i64 n)∧w'.cell? ⟨b,off+j*7+4,none⟩=some (.slice sa sn sc)∧w'.cell? ⟨b,off+j*7+5,none⟩=some (.slice ma mn mc)∧w'.cell? ⟨b,off+j*7+6,none⟩=some (.slice xa xn xc)) [7,8,9,10,11] (by kernel_rfl) ?_
   (refine wpMix_take (i:=0) (v:= ?_) rfl (by kernel_rfl) (fun _ _ _ h=>h) (Or.inl ⟨by rfl,?_⟩) hS0 ?_;rotate_left 1;(focus (intro w' hSw;(try dsimp only at hSw);have k0:=cell_blk (i:=0) (x:= .slice ad ds.length cd) hSw.1 rfl;have k1:=cell_blk (i:=1) (x:= .slice am' ms.length cm) hSw.1 rfl;have k2:=cell_blk (i:=2) (x:= .int .i64 g) hSw.1 rfl;clear hSw;go_simp;try (with_reducible rfl)));(try simp only [Act.put,List.setIfInBounds_toArray,List.set_cons_zero,List.set_cons_succ]))
   (refine wpMix_take (i:=1) (v:= ?_) rfl (by kernel_rfl) (fun _ _ _ h=>h) (Or.inl ⟨by rfl,?_⟩) hS0 ?_;rotate_left 1;(focus (intro w' hSw;(try dsimp only at hSw);have k0:=cell_blk (i:=0) (x:= .slice aa LA ac) hSw.2.1 rfl;have k1:=cell_blk (i:=1) (x:= .slice ba dq.by_.length bc) hSw.2.1 rfl;have k2:=cell_blk (i:=2) (x:= .int .i64 mode) hSw.2.1 rfl;have k3:=cell_blk (i:=3) (x:= .slice sa' LS sc') hSw.2.1 rfl;have k4:=cell_blk (i:=4) (x:= .int .i64 every) hSw.2.1 rfl;have k5:=cell_blk (i:=5) (x:= .int .i64 kind) hSw.2.1 rfl;have k6:=cell_blk (i:=6) (x:= .string name) hSw.2.1 rfl;have k7:=cell_blk (i:=7) (x:= .slice wa wn wk) hSw.2.1 rfl;have k8:=cell_blk (i:=8) (x:= .int .i64 fr) hSw.2.1 rfl;have k9:=cell_blk (i:=9) (x:= .int .i64 till) hSw.2.1 rfl;have k10:=cell_blk (i:=10) (x:= .slice fa fn fc) hSw.2.1 rfl;have k11:=cell_blk (i:=11) (x:= .slice ha LH hc) hSw.2.1 rfl;have k12:=cell_blk (i:=12) (x:= .slice oa LO oc) hSw.2.1 rfl;have k13:=cell_blk (i:=13) (x:= .int .i64 dq.limit) hSw.2.1 rfl;clear hSw;go_simp;try (with_reducible rfl)));(try simp only [Act.put,List.setIfInBounds_toArray,List.set_cons_zero,List.set_cons_succ]))
   refine Tk 2 hS0 ?_
   refine Tk 3 hS0 ?_
   refine Tk 4 hS0 ?_
   refine Tk 5 hS0 ?_
   have HC012:=hid (And.intro c0 (And.intro c1 c2));have HC7:=hid (And.intro c0 (And.intro c1 (And.intro c2 (And.intro c3 (And.intro c4 (And.intro c5 c6))))))
   clear hS0 c0 c1 c2 c3 c4 c5 c6
   by_cases hE:numsErr ds ms g dq L d=0
   rotate_left 1
   ·have C2:=hid (C1.mono (R':=fun e w'=>e= .returned (.tuple #[.slice none 0 0,.int .i64 (numsErr ds ms g dq L d)])∧Below wr.heap.size wr w') (fun e w' ⟨v,h1,h2,h3⟩=>by
     rcases h3 with ⟨h3,_⟩|⟨_,rfl⟩
     ·exact absurd h3 hE
     ·exact ⟨h1,(Below.drew (Below.refl wr.heap.size wr)).trans h2⟩))
    have HER:Hid (linesErr ds ms g dq L gs=numsErr ds ms g dq L d):=by
     have hsp:gs=gs.take j++d::gs.drop (j+1):=by
      obtain ⟨h1,h2⟩:=List.getElem?_eq_some_iff.1 HD.out.1
      rw [←h2,←List.drop_eq_getElem_cons h1,List.take_append_drop]
     have hge:grpErr ds ms g dq L d=numsErr ds ms g dq L d:=by unfold grpErr;rw [if_neg hE]
     unfold Hid
     rw [hsp,linesErr_at ds ms g dq L d _ _ HST.out.er (by rw [hge];exact hE),hge]
    have heb:(numsErr ds ms g dq L d==0)=false:=by simpa using hE
    have heb2:(numsErr ds ms g dq L d !=0)=true:=by simpa using hE
    have HE:=hid hE
    clear C1
    generalize numsErr ds ms g dq L d=er at*
    refine wpMix_next (t:=6) (by kernel_rfl) ?_
    simp only [opsAt,Ol]
    go_wp2_with (go_at_call 34;go_loud ((with_reducible refine C2.out.mono ?_);rintro e w3 ⟨rfl,hb3⟩))
    refine ⟨⟨blk_below HST.out.bs hb3,blk_below HST.out.bq hb3,cell_step HC7.out.1 hb3,cell_step HC7.out.2.1 hb3,cell_step HC7.out.2.2.1 hb3,cell_step HC7.out.2.2.2.1 hb3,cell_step HC7.out.2.2.2.2.1 hb3,cell_step HC7.out.2.2.2.2.2.1 hb3,cell_step HC7.out.2.2.2.2.2.2 hb3⟩,?_⟩
    (refine wpMix_free (i:=7) (v:= ?_) rfl (by kernel_rfl) (fun _ _ _ h=>h) (Or.inl ⟨by rfl,?_⟩) ?_;rotate_left 1;(focus (intro w hSw;go_simp;try (with_reducible rfl)));(try simp only [Act.put,List.setIfInBounds_toArray,List.set_cons_zero,List.set_cons_succ]))
    (refine wpMix_free (i:=8) (v:= ?_) rfl (by kernel_rfl) (fun _ _ _ h=>h) (Or.inl ⟨by rfl,?_⟩) ?_;rotate_left 1;(focus (intro w hSw;go_simp;try (with_reducible rfl)));(try simp only [Act.put,List.setIfInBounds_toArray,List.set_cons_zero,List.set_cons_succ]))
    (refine wpMix_free (i:=9) (v:= ?_) rfl (by kernel_rfl) (fun _ _ _ h=>h) (Or.inl ⟨by rfl,?_⟩) ?_;rotate_left 1;(focus (intro w hSw;go_simp;try (with_reducible rfl)));(try simp only [Act.put,List.setIfInBounds_toArray,List.set_cons_zero,List.set_cons_succ]))
    refine wpMix_rest [10,11] (by kernel_rfl) ?_
    simp only [opsAt,Ol]
    have HB3:=hid (HST.out.bel.step hb3)
    go_wp2
    go_ret2
    exact ⟨_,by rw [HER.out];rfl,HB3.out,.inl ⟨by rw [HER.out];exact HE.out,rfl⟩⟩
   obtain ⟨ns,hns⟩:∃ns,fstL (numsOf ds ms g dq.aggs d)=ns:=⟨_,rfl⟩
   have hlg:lineG ds ms g dq d=⟨d.key,ns⟩:=by unfold lineG;rw [hns]
   have HLG:=hid hlg
   have HNL:Hid (ns.length=dq.aggs.length):=by have:=line_len ds ms g dq d;rw [hlg] at this;exact this
   have HNO:Hid (∀v∈ns,NumOk v):=by have:=line_ok (HGO.out d HD.out.2) ds ms g dq;rw [hlg] at this;exact this
   rw [hns,hE] at C1
   have C2:=hid (C1.mono (R':=fun e w'=>∃na nc,e= .returned (.tuple #[.slice na ns.length nc,.int .i64 0])∧Below wr.heap.size wr w'∧w'.ownsRow wr.heap.size 63 3 (.slice na ns.length nc) ns.length (ns.flatMap NumD.cells)) (fun e w' ⟨v,h1,h2,h3⟩=>by
    rcases h3 with ⟨_,h3⟩|⟨h3,_⟩
    ·obtain ⟨na,nc,rfl,_⟩:=nums_sl h3
     exact ⟨na,nc,h1,(Below.drew (Below.refl wr.heap.size wr)).trans h2,h3⟩
    ·exact absurd rfl h3))
   have HE0:=hid hE
   clear C1 hE hns hlg
   refine wpMix_next (t:=6) (by kernel_rfl) ?_
   simp only [opsAt,Ol]
   go_wp2_with (go_at_call 34;go_loud ((with_reducible refine C2.out.mono ?_);rintro e w3 ⟨na,nc,rfl,hb3,ho3⟩))
   refine ⟨⟨blk_below HST.out.bs hb3,blk_below HST.out.bq hb3,cell_step HC7.out.1 hb3,cell_step HC7.out.2.1 hb3,cell_step HC7.out.2.2.1 hb3,cell_step HC7.out.2.2.2.1 hb3,cell_step HC7.out.2.2.2.2.1 hb3,cell_step HC7.out.2.2.2.2.2.1 hb3,cell_step HC7.out.2.2.2.2.2.2 hb3⟩,?_⟩
   (refine wpMix_free (i:=7) (v:= ?_) rfl (by kernel_rfl) (fun _ _ _ h=>h) (Or.inl ⟨by rfl,?_⟩) ?_;rotate_left 1;(focus (intro w hSw;go_simp;try (with_reducible rfl)));(try simp only [Act.put,List.setIfInBounds_toArray,List.set_cons_zero,List.set_cons_succ]))
   (refine wpMix_free (i:=8) (v:= ?_) rfl (by kernel_rfl) (fun _ _ _ h=>h) (Or.inl ⟨by rfl,?_⟩) ?_;rotate_left 1;(focus (intro w hSw;go_simp;try (with_reducible rfl)));(try simp only [Act.put,List.setIfInBounds_toArray,List.set_cons_zero,List.set_cons_succ]))
   (refine wpMix_free (i:=9) (v:= ?_) rfl (by kernel_rfl) (fun _ _ _ h=>h) (Or.inl ⟨by rfl,?_⟩) ?_;rotate_left 1;(focus (intro w hSw;go_simp;try (with_reducible rfl)));(try simp only [Act.put,List.setIfInBounds_toArray,List.set_cons_zero,List.set_cons_succ]))
   refine wpMix_rest [10,11] (by kernel_rfl) ?_
   simp only [opsAt,Ol]
   have HB3:=hid (show Below wr.heap.size wr w3 from hb3)
   have SX:=hid (HST.out.step HB3.out)
   have HNS:=hid (SlAt.own ho3)
   have HXX:=hid (HX.out.below HB3.out)
   have HC:=hid (And.intro (cell_step HC012.out.1 HB3.out) (And.intro (cell_step HC012.out.2.1 HB3.out) (cell_step HC012.out.2.2 HB3.out)))
   clear hb3 ho3 C2 HST HC012
   have c2:=World.plus_cell HC.out.2.2
   have k1:=World.plus_cell (cell_blk (i:=1) (x:= .slice ba dq.by_.length bc) SX.out.bq rfl)
   go_wp2_with fail
   go_upto_region 11 with fail
   refine wp_region_plus (by kernel_rfl) (by kernel_rfl) ?_
   repeat (first|go_big_quiet_skip|(go_big_quiet_want;go_big_quiet_op;first|go_big_quiet_on|go_big_quiet_call ((fail))))
   refine wpQuiet_nil ?_
   rintro _ ⟨xq,rfl⟩
   have HB4:=hid (World.plus_below w3 xq)
   have HBX4:=hid (HB3.out.trans (HB4.out.mono HB3.out.size))
   have SY:=hid (SX.out.step HB4.out)
   have HNY:=hid (SlAt.below HNS.out HB4.out)
   have HCY:=hid (And.intro (cell_step HC.out.1 HB4.out) (And.intro (cell_step HC.out.2.1 HB4.out) (cell_step HC.out.2.2 HB4.out)))
   clear c2 k1 HC HB3 HB4 HNS SX
   generalize World.plus w3 xq=Y at*
   by_cases hK:d.key.length=dq.by_.length
   rotate_left 1
   ·have hge:grpErr ds ms g dq L d=152:=by unfold grpErr;rw [if_pos HE0.out,if_neg hK]
    have HER:Hid (linesErr ds ms g dq L gs=152):=by
     have hsp:gs=gs.take j++d::gs.drop (j+1):=by
      obtain ⟨h1,h2⟩:=List.getElem?_eq_some_iff.1 HD.out.1
      rw [←h2,←List.drop_eq_getElem_cons h1,List.take_append_drop]
     unfold Hid
     rw [hsp,linesErr_at ds ms g dq L d _ _ SY.out.er (by rw [hge];decide),hge]
    have hk1:decide (d.key.length=dq.by_.length)=false:=by simpa using hK
    have hk3:((d.key.length:Int) !=(dq.by_.length:Int))=true:=by simp;omega
    have hk4:((d.key.length:Int)==(dq.by_.length:Int))=false:=by simp;omega
    have HBY:=hid SY.out.bel
    clear hge
    go_wp2
    go_ret2
    exact ⟨_,by rw [HER.out];rfl,HBY.out,.inl ⟨by rw [HER.out];decide,rfl⟩⟩
   have hge:grpErr ds ms g dq L d=0:=by unfold grpErr;rw [if_pos HE0.out,if_pos hK]
   have HGE:=hid hge
   have hk1:decide (d.key.length=dq.by_.length)=true:=by simpa using hK
   have hk3:((d.key.length:Int) !=(dq.by_.length:Int))=false:=by simp;omega
   have hk4:((d.key.length:Int)==(dq.by_.length:Int))=true:=by simp;omega
   have q11:=cell_blk (i:=11) (x:= .slice ha LH hc) SY.out.bq rfl
   clear hge hK
   go_wp2_with fail
   clear q11
   obtain ⟨wo,rfl⟩:∃V,V=wr:=⟨_,rfl⟩
   go_loopw [13,14] (fun sv kv wr2=>∃k:Nat,k≤LH∧kv= .int .i64 (k:Int)∧sv= .bool ((dq.having.take k).all (fun c=>condL c ⟨d.key,ns⟩))∧Below Y.heap.size Y wr2) (fun _ kv _=>LH-(intOf kv).toNat)
   case atStart=>exact ⟨0,Nat.zero_le _,rfl,rfl,Below.refl _ _⟩
   case round=>
    obtain ⟨k,hk,rfl,rfl,hbY⟩:=hrel
    obtain ⟨wr2,rfl⟩:∃V,V=wr:=⟨_,rfl⟩
    have HBY:=hid hbY
    have S2:=hid (SY.out.step hbY)
    have kq1:(0:Int)≤(k:Int):=by omega
    by_cases hkL:k<LH
    ·have hkI:(k:Int)<(LH:Int):=by omega
     have hlen:k<dq.having.length:=by rw [HLH.out];exact hkL
     obtain ⟨bh,oh,rfl,hcl⟩:=HA4.out (by omega)
     obtain ⟨e0,e1,e2⟩:=hcl k hlen
     replace e0:=cell_step e0 S2.out.bel;replace e1:=cell_step e1 S2.out.bel;replace e2:=cell_step e2 S2.out.bel
     have hco:=List.all_eq_true.1 HTY.out _ (List.getElem_mem hlen)
     unfold condOkB withinB at hco
     simp only [Bool.and_eq_true,decide_eq_true_eq] at hco
     have hcd:=HCD.out _ (List.getElem_mem hlen)
     obtain ⟨i,hpos⟩:=Int.eq_ofNat_of_zero_le hco.1.1
     have hin:i<ns.length:=by have:=HNL.out;omega
     obtain ⟨bn,on',rfl,hcn⟩:=(SlAt.parts (SlAt.below HNY.out hbY)).2.2.2.2 (by rw [SlAt.len HNY.out];omega)
     obtain ⟨v0,v1,v2⟩:=nums_at hin
     have f0:=hcn _ _ v0;have f1:=hcn _ _ v1;have f2:=hcn _ _ v2
     rw [←Nat.add_assoc] at f1 f2
     have HH:=hid (fun W=>refHolds18_any dq.having[k].pos dq.having[k].op dq.having[k].n ns[i] hcd.2 (HNO.out _ (List.getElem_mem hin)) W)
     have HCL:Hid ((dq.having.take (k+1)).all (fun c=>condL c ⟨d.key,ns⟩)=((dq.having.take k).all (fun c=>condL c ⟨d.key,ns⟩)&&holdsB dq.having[k].op dq.having[k].n ns[i])):=by
      unfold Hid
      rw [List.take_succ_eq_append_getElem hlen,List.all_append,List.all_cons,List.all_nil,Bool.and_true]
      congr 1
      unfold condL
      rw [hpos]
      simp only [Int.toNat_natCast]
      rw [List.getD_eq_getElem?_getD,List.getElem?_eq_getElem hin]
      rfl
     rw [hpos] at e0 HH
     generalize holdsB dq.having[k].op dq.having[k].n ns[i]=hb at*
     generalize (dq.having.take k).all (fun c=>condL c ⟨d.key,ns⟩)=is at*
     generalize dq.having[k].op=o' at*;generalize dq.having[k].n=n' at*
     generalize ns[i].fl=x0 at*;generalize ns[i].n=x1 at*;generalize ns[i].f=x2 at*
     have hinI:(i:Int)<(ns.length:Int):=by omega
     have hi00:(0:Int)≤(i:Int):=by omega
     have q11:=cell_blk (i:=11) (x:= .slice (some ⟨bh,oh,none⟩) LH hc) S2.out.bq rfl
     have p0:=World.plus_cell e0;have p1:=World.plus_cell e1;have p2:=World.plus_cell e2;have p3:=World.plus_cell f0;have p4:=World.plus_cell f1;have p5:=World.plus_cell f2;have p6:=World.plus_cell q11
     clear hcl hco hcd hpos hcn v0 v1 v2 e0 e1 e2 f0 f1 f2 hbY
     cases is
     ·go_wp2_with fail
      refine wp_region_plus (by kernel_rfl) (by kernel_rfl) ?_
      repeat (first|go_big_quiet_skip|(go_big_quiet_want;go_big_quiet_op;first|go_big_quiet_on|go_big_quiet_call ((fail))))
      refine wpQuiet_nil ?_
      rintro _ ⟨xq,rfl⟩
      have HB2:=hid (HBY.out.step (World.plus_below wr2 xq))
      clear p0 p1 p2 p3 p4 p5 p6 q11
      go_wp2
      go_roundw
      case rel=>exact ⟨k+1,hkL,by go_num,by rw [HCL.out];rfl,HB2.out⟩
      case measure=>simp [intOf];omega
     ·go_wp2_with fail
      refine wp_region_plus (by kernel_rfl) (by kernel_rfl) ?_
      repeat (first|go_big_quiet_skip|(go_big_quiet_want;go_big_quiet_op;first|go_big_quiet_on|go_big_quiet_call (((go_at_call 35;exact Calls.plus_of (HH.out _))))))
      refine wpQuiet_nil ?_
      rintro _ ⟨xq,rfl⟩
      have HB2:=hid (HBY.out.step (World.plus_below wr2 xq))
      clear p0 p1 p2 p3 p4 p5 p6 q11
      go_wp2
      go_roundw
      case rel=>exact ⟨k+1,hkL,by go_num,by rw [HCL.out];rfl,HB2.out⟩
      case measure=>simp [intOf];omega
    ·obtain rfl:LH=k:=by omega
     have HIS:Hid ((dq.having.take LH).all (fun c=>condL c ⟨d.key,ns⟩)=holdL dq (lineG ds ms g dq d)):=by
      unfold Hid holdL
      rw [HLG.out,List.take_of_length_le (by rw [HLH.out];exact Nat.le_refl _)]
     rw [HIS.out]
     obtain ⟨is,his⟩:∃is,holdL dq (lineG ds ms g dq d)=is:=⟨_,rfl⟩
     rw [his]
     have HHL:=hid his
     have q11:=cell_blk (i:=11) (x:= .slice ha LH hc) S2.out.bq rfl
     have HCZ:=hid (And.intro (cell_step HCY.out.1 hbY) (And.intro (cell_step HCY.out.2.1 hbY) (cell_step HCY.out.2.2 hbY)))
     have HNZ:=hid (SlAt.below HNY.out hbY)
     have HXZ:=hid (HX.out.below (HBX4.out.trans (hbY.mono HBX4.out.size)))
     have hsz:wo.heap.size≤wr2.heap.size:=by have:=HBX4.out.size;have:=hbY.size;omega
     clear his HIS hbY HBY SY HCY HNY HBX4 hk1 hk3 hk4
     go_wp2_with fail
     go_upto_region 18 with fail
     clear q11
     have u0:=HCZ.out.1;have u1:=HCZ.out.2.1;have u2:=HCZ.out.2.2;have hbl:b<wr2.heap.size:=World.block_lt_of_cell? _ _ HCZ.out.1
     go_region
     go_upto_block 4 with fail
     obtain ⟨X1,hX1⟩:∃X1,(wr2.alloc (.cells #[.int .i64 st,.int .i64 tm,.slice ka d.key.length kc,.slice na ns.length nc] 37)).drew=X1:=⟨_,rfl⟩
     have HB5:=hid (show Below wr2.heap.size wr2 X1 from by rw [←hX1];exact Gr)
     have hh1:X1.heap[wr2.heap.size]? =some (.cells #[.int .i64 st,.int .i64 tm,.slice ka d.key.length kc,.slice na ns.length nc] 37 (0,0)):=by rw [←hX1];exact heap_at rfl
     rw [hX1]
     clear hX1 u0 u1 u2 hbl
     have S3:=hid (S2.out.step HB5.out)
     have HBX:=hid hh1
     have HU:=hid (show LnIs X1 ⟨st,tm,ka,d.key.length,kc,na,ns.length,nc⟩ ⟨d.key,ns⟩ from ⟨SlAt.below HXZ.out.key.sl HB5.out,SlAt.below HNZ.out HB5.out,HNO.out⟩)
     have HKS:=hid (show KeySz ⟨d.key,ns⟩ from HKL.out.2)
     have HXST:=hid (And.intro HXZ.out.st HXZ.out.tm)
     have hxlt:=lt_of_block hh1
     clear hh1 S2 HCZ HNZ HXZ
     go_wp2_with fail
     go_loopw [16] (fun av wr3=>∃p:Nat,p≤T.length∧av= .int .i64 (p:Int)∧(∀i e,p≤i→T[i]? =some e→cmpK dq.order ⟨d.key,ns⟩ e.l<0)∧Below X1.heap.size X1 wr3) (fun av _=>(intOf av).toNat)
     case atStart=>exact ⟨T.length,Nat.le_refl _,rfl,fun i e h he=>absurd (List.getElem?_eq_some_iff.1 he).1 (by omega),Below.refl _ _⟩
     case round=>
      obtain ⟨p,hp,rfl,hhi,hb6⟩:=hrel
      obtain ⟨wr3,rfl⟩:∃V,V=wr:=⟨_,rfl⟩
      have HHI:=hid hhi
      have S4:=hid (S3.out.step hb6);have HB6:=hid hb6
      have HBX4:=hid (blk_below HBX.out hb6)
      have HU4:=hid (HU.out.below hb6)
      have hxlt4:=lt_of_block HBX4.out
      have hwr4:wo.heap.size≤wr3.heap.size:=by have:=HB5.out.size;have:=hb6.size;omega
      have pq0:(0:Int)≤(p:Int):=by omega
      clear hhi hb6
      by_cases hp0:p=0
      ·have hpd:decide ((0:Int)<(p:Int))=false:=by simp;omega
       have hpn:decide (0<p)=false:=by simp;omega
       have HLO:Hid (∀e,0<p→T[p-1]? =some e→¬cmpK dq.order ⟨d.key,ns⟩ e.l<0):=fun e h=>absurd h (by omega)
       have hq:=hid hp0
       clear hp0
       go_wp2_with fail
       refine wp_region_plus (by kernel_rfl) (by kernel_rfl) ?_
       repeat (first|go_big_quiet_skip|(go_big_quiet_want;go_big_quiet_op;first|go_big_quiet_on|go_big_quiet_call ((fail))))
       refine wpQuiet_nil ?_
       rintro _ ⟨xq,rfl⟩
       have HB7:=hid (World.plus_below wr3 xq)
       have S5:=hid (S4.out.step HB7.out)
       have HBX5:=hid (blk_below HBX4.out HB7.out)
       have HU5:=hid (HU4.out.below HB7.out)
       have hwr5:wo.heap.size≤(World.plus wr3 xq).heap.size:=by have:=HB7.out.size;omega
       clear HB7 hpd hpn S4 HBX4 HU4
       generalize World.plus wr3 xq=V at*
       cases is
       ·have HSK:=hid (S5.out.skip HD.out.1 HGE.out HHL.out)
        clear S5
        go_wp2
        go_roundw
        case rel=>exact ⟨T,j+1,hjN,by go_num,HSK.out⟩
        case measure=>simp [intOf];omega
       ·have e0:=cell_blk (i:=0) (x:= .int .i64 st) HBX5.out rfl;have e1:=cell_blk (i:=1) (x:= .int .i64 tm) HBX5.out rfl;have e2:=cell_blk (i:=2) (x:= .slice ka d.key.length kc) HBX5.out rfl;have e3:=cell_blk (i:=3) (x:= .slice na ns.length nc) HBX5.out rfl
        have hVx:=lt_of_block HBX5.out
        have hpo:(p:Int)≤(oc':Int):=by omega
        have HSRC:=hid (fun X (h:Below V.heap.size V X)=>(show SlAt X (.slice oa' p oc') p 4 (elCells (T.take p)) from by
         have h2:=(S5.out.at_.take hp).sl
         unfold elCells at h2 ⊢
         rw [flat_take 4 (fun e:El=>e.v.cells.toList) (fun _=>rfl)] at h2
         exact SlAt.below h2 h))
        have HSR2:=hid (fun X (h:Below V.heap.size V X)=>(show SlAt X (.slice (if oc'=p then oa' else oa'.map fun a=>a.add (p*4)) (T.length-p) (oc'-p)) (T.length-p) 4 (elCells (T.drop p)) from by
         have h2:=S5.out.at_.sl.from (fun h0 a ha=>by obtain ⟨b9,o9,_,_,e9,_⟩:=ln_at (K:=T.length) (T:=T) (by rw [List.take_length];exact S5.out.at_) (Nat.le_refl _) h0;simp only [Value.slice.injEq,true_and] at e9;rw [e9.1] at ha;cases ha;rfl) (k:=p) hp
         unfold elCells at h2 ⊢
         rw [flat_drop 4 (fun e:El=>e.v.cells.toList) (fun _=>rfl)] at h2
         exact SlAt.below h2 h))
        have HONE:=hid elCells_one
        have HPUT:=hid (fun Y v' hb ho=>S5.out.put (Y:=Y) (v':=v') (p:=p) HD.out.1 HGE.out HHL.out (u:=⟨st,tm,ka,d.key.length,kc,na,ns.length,nc⟩) (by rw [HLG.out];exact HU5.out) HXST.out.1 HXST.out.2 hp (by rw [HLG.out];exact fun e h1 h2=>by have:=HLO.out e h1 h2;omega) (by rw [HLG.out];exact HHI.out) hb ho)
        rw [HLG.out] at HPUT
        have hwV:w.heap.size≤V.heap.size:=by omega
        go_upto_region 24 with fail
        have hS0:(fun w':World=>w'.cell? ⟨wr2.heap.size,0,none⟩=some (.int .i64 st)∧w'.cell? ⟨wr2.heap.size,1,none⟩=some (.int .i64 tm)∧w'.cell? ⟨wr2.heap.size,2,none⟩=some (.slice ka d.key.length kc)∧w'.cell? ⟨wr2.heap.size,3,none⟩=some (.slice na ns.length nc)) V.drew:=⟨e0,e1,e2,e3⟩
        refine wp_region_some (fun w':World=>w'.cell? ⟨wr2.heap.size,0,none⟩=some (.int .i64 st)∧w'.cell? ⟨wr2.heap.size,1,none⟩=some (.int .i64 tm)∧w'.cell? ⟨wr2.heap.size,2,none⟩=some (.slice ka d.key.length kc)∧w'.cell? ⟨wr2.heap.size,3,none⟩=some (.slice na ns.length nc)) [7,8] (by kernel_rfl) ?_
        refine Tk 0 hS0 ?_
        refine Tk 1 hS0 ?_
        refine Tk 2 hS0 ?_
        refine Tk 3 hS0 ?_
        refine Tk 5 hS0 ?_
        refine wpMix_pick [4,6] (by kernel_rfl) (pick_two ?_ ?_) (by simp)
        all_goals simp only [opsAt,Ol]
        ·go_wp2_with (at_builtin;go_loud (refine wpList_append_sl _ rfl _ _ 49 rfl V.heap.size 37 iL (.agg #[.int .i64 0,.int .i64 0,.slice none 0 0,.slice none 0 0]) 4 64 Tryz.underlying49 hiL hiz0 hiz1 hiz2 rfl (by decide) (.slice none 0 0) 0 _ rfl (World.ownsRow_nil _ _ _ _) (.slice oa' p oc') p _ rfl (HSRC.out _ (Below.drew (Below.refl _ _))) (HONE.out _) (by unfold maxLen;omega) (by omega) (by simp) ?_);intro v1 w6 hown6 hg6 hb6)
         have HB6':=hid ((Below.drew (Below.refl V.heap.size V)).grown hg6 (by simp) (fun r e=>by cases e))
         refine ⟨⟨cell_step e0 HB6'.out,cell_step e1 HB6'.out,cell_step e2 HB6'.out,cell_step e3 HB6'.out⟩,?_⟩
         rw [Nat.zero_add,List.nil_append] at hown6
         have HO6:=hid hown6
         have hz6:=HB6'.out.size
         clear hown6 hg6 hb6 hS0
         refine wpMix_next (t:=6) (by kernel_rfl) ?_
         simp only [opsAt,Ol]
         go_wp2
         have hB6n:=HB6'.out.new (.cells #[.int .i64 st,.int .i64 tm,.slice ka d.key.length kc,.slice na ns.length nc] 37)
         refine ⟨⟨cell_step e0 hB6n,cell_step e1 hB6n,cell_step e2 hB6n,cell_step e3 hB6n⟩,?_⟩
         clear e0 e1 e2 e3
         refine wpMix_rest [7,8] (by kernel_rfl) ?_
         simp only [opsAt,Ol]
         go_upto_region 25 with (at_builtin;go_loud (refine wpList_append_sl _ rfl _ _ 49 rfl V.heap.size 37 iL (.agg #[.int .i64 0,.int .i64 0,.slice none 0 0,.slice none 0 0]) 4 64 Tryz.underlying49 hiL hiz0 hiz1 hiz2 rfl (by decide) v1 p _ rfl (HO6.out.alloc _) (.slice (some ⟨w6.heap.size,0,none⟩) 1 1) 1 _ rfl (SlAt.new w6 #[.int .i64 st,.int .i64 tm,.slice ka d.key.length kc,.slice na ns.length nc] 37) (by simp [Value.oneCell']) (by unfold maxLen;omega) (by omega) (by simp;omega) ?_);intro v2 w7 hown7 hg7 hb7)
         have HB7':=hid (own_below (HO6.out.alloc (.cells #[.int .i64 st,.int .i64 tm,.slice ka d.key.length kc,.slice na ns.length nc] 37)) hg7 hB6n (Nat.le_refl _))
         have HO7:=hid hown7
         have hz7:=HB7'.out.size
         have HS7:=hid (HSR2.out w7 HB7'.out)
         obtain ⟨XS,hXS⟩:∃XS,(if oc'=p then oa' else Option.map (fun x=>x.add (p*4)) oa')=XS:=⟨_,rfl⟩
         rw [hXS] at HS7
         have hpT:(p:Int)≤(T.length:Int):=by omega
         clear hown7 hg7 hb7
         go_wp2_with (at_builtin;go_loud (refine wpList_append_sl _ rfl _ _ 49 rfl V.heap.size 37 iL (.agg #[.int .i64 0,.int .i64 0,.slice none 0 0,.slice none 0 0]) 4 64 Tryz.underlying49 hiL hiz0 hiz1 hiz2 rfl (by decide) v2 (p+1) _ rfl HO7.out (.slice XS (T.length-p) (oc'-p)) (T.length-p) _ rfl HS7.out (HONE.out _) (by unfold maxLen;omega) (by omega) (by omega) ?_);intro v3 w8 hown8 hg8 hb8)
         have HB8:=hid (own_below HO7.out hg8 HB7'.out (Nat.le_refl _))
         have HS8:=hid (show SlS (fun b=>w.heap.size≤b) w8 v3 (T.length+1) 4 (elCells (T.take p++[⟨⟨st,tm,ka,d.key.length,kc,na,ns.length,nc⟩,⟨d.key,ns⟩,j⟩]++T.drop p)) from by
          have h1:p+1+(T.length-p)=T.length+1:=by omega
          rw [h1] at hown8
          have h2:elCells (T.take p++[⟨⟨st,tm,ka,d.key.length,kc,na,ns.length,nc⟩,⟨d.key,ns⟩,j⟩]++T.drop p)=elCells (T.take p)++[.int .i64 st,.int .i64 tm,.slice ka d.key.length kc,.slice na ns.length nc]++elCells (T.drop p):=by unfold elCells;simp [LnV.cells]
          rw [h2]
          exact (SlS.own hown8).keep (fun b hb=>by have:=(hown8.lt b hb).1;omega) (fun _ _ _=>rfl))
         have HFIN:=hid (HPUT.out w8 v3 HB8.out HS8.out)
         clear hown8 hg8 hb8 hXS HS8 HO7 HS7 HPUT S5
         go_roundw
         case rel=>exact ⟨_,j+1,hjN,by go_num,HFIN.out⟩
         case measure=>simp [intOf];omega
        ·go_wp2
         have hBn:=((Below.refl V.heap.size V).new (.cells #[.int .i64 st,.int .i64 tm,.slice ka d.key.length kc,.slice na ns.length nc] 37)).drew
         refine ⟨⟨cell_step e0 hBn,cell_step e1 hBn,cell_step e2 hBn,cell_step e3 hBn⟩,?_⟩
         clear hS0
         refine wpMix_next (t:=4) (by kernel_rfl) ?_
         simp only [opsAt,Ol]
         go_wp2_with (at_builtin;go_loud (refine wpList_append_sl _ rfl _ _ 49 rfl V.heap.size 37 iL (.agg #[.int .i64 0,.int .i64 0,.slice none 0 0,.slice none 0 0]) 4 64 Tryz.underlying49 hiL hiz0 hiz1 hiz2 rfl (by decide) (.slice none 0 0) 0 _ rfl (World.ownsRow_nil _ _ _ _) (.slice oa' p oc') p _ rfl (HSRC.out _ hBn) (HONE.out _) (by unfold maxLen;omega) (by omega) (by simp) ?_);intro v1 w6 hown6 hg6 hb6)
         have HB6':=hid (hBn.grown hg6 (by simp) (fun r e=>by cases e))
         have hsl6:=SlAt.grown_nil (SlAt.new V #[.int .i64 st,.int .i64 tm,.slice ka d.key.length kc,.slice na ns.length nc] 37) hg6
         refine ⟨⟨cell_step e0 HB6'.out,cell_step e1 HB6'.out,cell_step e2 HB6'.out,cell_step e3 HB6'.out⟩,?_⟩
         rw [Nat.zero_add,List.nil_append] at hown6
         have HO6:=hid hown6;have HSL6:=hid hsl6
         have hz6:=HB6'.out.size
         clear hown6 hg6 hb6 e0 e1 e2 e3 hsl6
         refine wpMix_rest [7,8] (by kernel_rfl) ?_
         simp only [opsAt,Ol]
         go_upto_region 25 with (at_builtin;go_loud (refine wpList_append_sl _ rfl _ _ 49 rfl V.heap.size 37 iL (.agg #[.int .i64 0,.int .i64 0,.slice none 0 0,.slice none 0 0]) 4 64 Tryz.underlying49 hiL hiz0 hiz1 hiz2 rfl (by decide) v1 p _ rfl HO6.out (.slice (some ⟨V.heap.size,0,none⟩) 1 1) 1 _ rfl HSL6.out (by simp [Value.oneCell']) (by unfold maxLen;omega) (by omega) (by omega) ?_);intro v2 w7 hown7 hg7 hb7)
         have HB7':=hid (own_below HO6.out hg7 HB6'.out (Nat.le_refl _))
         have HO7:=hid hown7
         have hz7:=HB7'.out.size
         have HS7:=hid (HSR2.out w7 HB7'.out)
         obtain ⟨XS,hXS⟩:∃XS,(if oc'=p then oa' else Option.map (fun x=>x.add (p*4)) oa')=XS:=⟨_,rfl⟩
         rw [hXS] at HS7
         have hpT:(p:Int)≤(T.length:Int):=by omega
         clear hown7 hg7 hb7
         go_wp2_with (at_builtin;go_loud (refine wpList_append_sl _ rfl _ _ 49 rfl V.heap.size 37 iL (.agg #[.int .i64 0,.int .i64 0,.slice none 0 0,.slice none 0 0]) 4 64 Tryz.underlying49 hiL hiz0 hiz1 hiz2 rfl (by decide) v2 (p+1) _ rfl HO7.out (.slice XS (T.length-p) (oc'-p)) (T.length-p) _ rfl HS7.out (HONE.out _) (by unfold maxLen;omega) (by omega) (by omega) ?_);intro v3 w8 hown8 hg8 hb8)
         have HB8:=hid (own_below HO7.out hg8 HB7'.out (Nat.le_refl _))
         have HS8:=hid (show SlS (fun b=>w.heap.size≤b) w8 v3 (T.length+1) 4 (elCells (T.take p++[⟨⟨st,tm,ka,d.key.length,kc,na,ns.length,nc⟩,⟨d.key,ns⟩,j⟩]++T.drop p)) from by
          have h1:p+1+(T.length-p)=T.length+1:=by omega
          rw [h1] at hown8
          have h2:elCells (T.take p++[⟨⟨st,tm,ka,d.key.length,kc,na,ns.length,nc⟩,⟨d.key,ns⟩,j⟩]++T.drop p)=elCells (T.take p)++[.int .i64 st,.int .i64 tm,.slice ka d.key.length kc,.slice na ns.length nc]++elCells (T.drop p):=by unfold elCells;simp [LnV.cells]
          rw [h2]
          exact (SlS.own hown8).keep (fun b hb=>by have:=(hown8.lt b hb).1;omega) (fun _ _ _=>rfl))
         have HFIN:=hid (HPUT.out w8 v3 HB8.out HS8.out)
         clear hown8 hg8 hb8 hXS HS8 HO7 HS7 HPUT S5
         go_roundw
         case rel=>exact ⟨_,j+1,hjN,by go_num,HFIN.out⟩
         case measure=>simp [intOf];omega
      ·obtain ⟨p',hp'⟩:∃p',p=p'+1:=⟨p-1,by omega⟩
       have HPP:=hid hp'
       have hpl:p'<T.length:=by omega
       obtain ⟨bo,oo,co,x,hv,hx,c0,c1,c2,c3⟩:=ln_at (K:=T.length) (T:=T) (by rw [List.take_length];exact S4.out.at_) (Nat.le_refl _) hpl
       simp only [Value.slice.injEq,true_and] at hv
       obtain ⟨rfl,rfl⟩:=hv
       have hxm:=List.mem_of_getElem? hx
       have hks:KeySz x.l:=by
        obtain ⟨d',hd',_,_,hl⟩:=S4.out.td x hxm
        rw [hl]
        exact (HGK.out d' (List.mem_of_getElem? hd')).2
       have HA:=hid (fun y=>HAH.out ⟨st,tm,ka,d.key.length,kc,na,ns.length,nc⟩ x.v ⟨d.key,ns⟩ x.l (World.plus wr3 y) (S4.out.bel.step (World.plus_below wr3 y)) (HU4.out.below (World.plus_below wr3 y)) ((S4.out.el x hxm).below (World.plus_below wr3 y)) HKS.out hks)
       dsimp only [LnV.cells] at HA
       have HXI:=hid hx
       have hpd:decide ((0:Int)<(p:Int))=true:=by simp;omega
       have hpn:decide (0<p)=true:=by simp;omega
       have hwp:IntKind.i64.wrap ((p:Int)-1)=(p':Int):=by rw [IntWalk.i64_in _ (by omega)];omega
       have hp'I:(p':Int)<(T.length:Int):=by omega
       have hp'0:(0:Int)≤(p':Int):=by omega
       have hcx:(cmpK dq.order ⟨d.key,ns⟩ x.l<0)∨¬cmpK dq.order ⟨d.key,ns⟩ x.l<0:=Decidable.em _
       have pq0:=World.plus_cell (cell_blk (i:=0) (x:= .slice aa LA ac) S4.out.bq rfl)
       have pq1:=World.plus_cell (cell_blk (i:=1) (x:= .slice ba dq.by_.length bc) S4.out.bq rfl)
       have pq2:=World.plus_cell (cell_blk (i:=2) (x:= .int .i64 mode) S4.out.bq rfl)
       have pq3:=World.plus_cell (cell_blk (i:=3) (x:= .slice sa' LS sc') S4.out.bq rfl)
       have pq4:=World.plus_cell (cell_blk (i:=4) (x:= .int .i64 every) S4.out.bq rfl)
       have pq5:=World.plus_cell (cell_blk (i:=5) (x:= .int .i64 kind) S4.out.bq rfl)
       have pq6:=World.plus_cell (cell_blk (i:=6) (x:= .string name) S4.out.bq rfl)
       have pq7:=World.plus_cell (cell_blk (i:=7) (x:= .slice wa wn wk) S4.out.bq rfl)
       have pq8:=World.plus_cell (cell_blk (i:=8) (x:= .int .i64 fr) S4.out.bq rfl)
       have pq9:=World.plus_cell (cell_blk (i:=9) (x:= .int .i64 till) S4.out.bq rfl)
       have pq10:=World.plus_cell (cell_blk (i:=10) (x:= .slice fa fn fc) S4.out.bq rfl)
       have pq11:=World.plus_cell (cell_blk (i:=11) (x:= .slice ha LH hc) S4.out.bq rfl)
       have pq12:=World.plus_cell (cell_blk (i:=12) (x:= .slice oa LO oc) S4.out.bq rfl)
       have pq13:=World.plus_cell (cell_blk (i:=13) (x:= .int .i64 dq.limit) S4.out.bq rfl)
       have px0:=World.plus_cell (cell_blk (i:=0) (x:= .int .i64 st) HBX4.out rfl);have px1:=World.plus_cell (cell_blk (i:=1) (x:= .int .i64 tm) HBX4.out rfl);have px2:=World.plus_cell (cell_blk (i:=2) (x:= .slice ka d.key.length kc) HBX4.out rfl);have px3:=World.plus_cell (cell_blk (i:=3) (x:= .slice na ns.length nc) HBX4.out rfl)
       have pc0:=World.plus_cell c0;have pc1:=World.plus_cell c1;have pc2:=World.plus_cell c2;have pc3:=World.plus_cell c3
       clear hp0 hp' hx hxm hks c0 c1 c2 c3 hpl
       generalize x.v.st=y0 at*;generalize x.v.tm=y1 at*;generalize x.v.ka=y2 at*;generalize x.v.kn=y3 at*;generalize x.v.kc=y4 at*;generalize x.v.na=y5 at*;generalize x.v.nn=y6 at*;generalize x.v.nc=y7 at*
       go_wp2_with fail
       refine wp_region_plus (by kernel_rfl) (by kernel_rfl) ?_
       repeat (first|go_big_quiet_skip|(go_big_quiet_want;go_big_quiet_op;first|go_big_quiet_on|go_big_quiet_call (((go_at_call 36;exact Calls.plus_of (HA.out _))))))
       refine wpQuiet_nil ?_
       rintro _ ⟨xq,rfl⟩
       have HB7:=hid (World.plus_below wr3 xq)
       have S5:=hid (S4.out.step HB7.out)
       have HBX5:=hid (blk_below HBX4.out HB7.out)
       have HU5:=hid (HU4.out.below HB7.out)
       have hwr5:wo.heap.size≤(World.plus wr3 xq).heap.size:=by have:=HB7.out.size;omega
       clear pq0 pq1 pq2 pq3 pq4 pq5 pq6 pq7 pq8 pq9 pq10 pq11 pq12 pq13 px0 px1 px2 px3 pc0 pc1 pc2 pc3 S4 HBX4 HU4 HA
       rcases hcx with hcx|hcx
       ·have hcd:decide (cmpK dq.order ⟨d.key,ns⟩ x.l<0)=true:=by simpa using hcx
        have HHI2:Hid (∀i e,p'≤i→T[i]? =some e→cmpK dq.order ⟨d.key,ns⟩ e.l<0):=fun i e h1 h2=>by
         by_cases h3:i=p'
         ·subst h3
          rw [HXI.out] at h2
          cases h2
          exact hcx
         ·exact HHI.out i e (by have:=HPP.out;omega) h2
        have hq:=HPP.out
        have HP6:Hid (p'≤T.length∧p'<p):=⟨by omega,by omega⟩
        generalize decide (cmpK dq.order ⟨d.key,ns⟩ x.l<0)=dc at*
        subst hcd
        clear hq hcx
        go_wp2
        go_roundw
        case rel=>exact ⟨p',HP6.out.1,rfl,HHI2.out,HB6.out.step HB7.out⟩
        case measure=>simp [intOf];have:=HP6.out.2;omega
       ·have hcd:decide (cmpK dq.order ⟨d.key,ns⟩ x.l<0)=false:=by simpa using hcx
        have HLO:Hid (∀e,0<p→T[p-1]? =some e→¬cmpK dq.order ⟨d.key,ns⟩ e.l<0):=fun e _ he=>by
         rw [HPP.out,Nat.add_sub_cancel,HXI.out] at he
         cases he
         omega
        generalize decide (cmpK dq.order ⟨d.key,ns⟩ x.l<0)=dc at*
        subst hcd
        clear hcx hpd hpn hwp hp'I hp'0 HB7
        generalize World.plus wr3 xq=V at*
        obtain ⟨oa2,hoa2⟩:∃o,(some (⟨bo,oo,none⟩:Addr))=o:=⟨_,rfl⟩
        rw [hoa2] at S5 ⊢
        clear hoa2
        cases is
        ·have HSK:=hid (S5.out.skip HD.out.1 HGE.out HHL.out)
         clear S5
         go_wp2
         go_roundw
         case rel=>exact ⟨T,j+1,hjN,by go_num,HSK.out⟩
         case measure=>simp [intOf];omega
        ·have e0:=cell_blk (i:=0) (x:= .int .i64 st) HBX5.out rfl;have e1:=cell_blk (i:=1) (x:= .int .i64 tm) HBX5.out rfl;have e2:=cell_blk (i:=2) (x:= .slice ka d.key.length kc) HBX5.out rfl;have e3:=cell_blk (i:=3) (x:= .slice na ns.length nc) HBX5.out rfl
         have hVx:=lt_of_block HBX5.out
         have hpo:(p:Int)≤(oc':Int):=by omega
         have HSRC:=hid (fun X (h:Below V.heap.size V X)=>(show SlAt X (.slice oa2 p oc') p 4 (elCells (T.take p)) from by
          have h2:=(S5.out.at_.take hp).sl
          unfold elCells at h2 ⊢
          rw [flat_take 4 (fun e:El=>e.v.cells.toList) (fun _=>rfl)] at h2
          exact SlAt.below h2 h))
         have HSR2:=hid (fun X (h:Below V.heap.size V X)=>(show SlAt X (.slice (if oc'=p then oa2 else oa2.map fun a=>a.add (p*4)) (T.length-p) (oc'-p)) (T.length-p) 4 (elCells (T.drop p)) from by
          have h2:=S5.out.at_.sl.from (fun h0 a ha=>by obtain ⟨b9,o9,_,_,e9,_⟩:=ln_at (K:=T.length) (T:=T) (by rw [List.take_length];exact S5.out.at_) (Nat.le_refl _) h0;simp only [Value.slice.injEq,true_and] at e9;rw [e9.1] at ha;cases ha;rfl) (k:=p) hp
          unfold elCells at h2 ⊢
          rw [flat_drop 4 (fun e:El=>e.v.cells.toList) (fun _=>rfl)] at h2
          exact SlAt.below h2 h))
         have HONE:=hid elCells_one
         have HPUT:=hid (fun Y v' hb ho=>S5.out.put (Y:=Y) (v':=v') (p:=p) HD.out.1 HGE.out HHL.out (u:=⟨st,tm,ka,d.key.length,kc,na,ns.length,nc⟩) (by rw [HLG.out];exact HU5.out) HXST.out.1 HXST.out.2 hp (by rw [HLG.out];exact fun e h1 h2=>by have:=HLO.out e h1 h2;omega) (by rw [HLG.out];exact HHI.out) hb ho)
         rw [HLG.out] at HPUT
         have hwV:w.heap.size≤V.heap.size:=by omega
         go_upto_region 24 with fail
         have hS0:(fun w':World=>w'.cell? ⟨wr2.heap.size,0,none⟩=some (.int .i64 st)∧w'.cell? ⟨wr2.heap.size,1,none⟩=some (.int .i64 tm)∧w'.cell? ⟨wr2.heap.size,2,none⟩=some (.slice ka d.key.length kc)∧w'.cell? ⟨wr2.heap.size,3,none⟩=some (.slice na ns.length nc)) V.drew:=⟨e0,e1,e2,e3⟩
         refine wp_region_some (fun w':World=>w'.cell? ⟨wr2.heap.size,0,none⟩=some (.int .i64 st)∧w'.cell? ⟨wr2.heap.size,1,none⟩=some (.int .i64 tm)∧w'.cell? ⟨wr2.heap.size,2,none⟩=some (.slice ka d.key.length kc)∧w'.cell? ⟨wr2.heap.size,3,none⟩=some (.slice na ns.length nc)) [7,8] (by kernel_rfl) ?_
         refine Tk 0 hS0 ?_
         refine Tk 1 hS0 ?_
         refine Tk 2 hS0 ?_
         refine Tk 3 hS0 ?_
         refine Tk 5 hS0 ?_
         refine wpMix_pick [4,6] (by kernel_rfl) (pick_two ?_ ?_) (by simp)
         all_goals simp only [opsAt,Ol]
         ·go_wp2_with (at_builtin;go_loud (refine wpList_append_sl _ rfl _ _ 49 rfl V.heap.size 37 iL (.agg #[.int .i64 0,.int .i64 0,.slice none 0 0,.slice none 0 0]) 4 64 Tryz.underlying49 hiL hiz0 hiz1 hiz2 rfl (by decide) (.slice none 0 0) 0 _ rfl (World.ownsRow_nil _ _ _ _) (.slice oa2 p oc') p _ rfl (HSRC.out _ (Below.drew (Below.refl _ _))) (HONE.out _) (by unfold maxLen;omega) (by omega) (by simp) ?_);intro v1 w6 hown6 hg6 hb6)
          have HB6':=hid ((Below.drew (Below.refl V.heap.size V)).grown hg6 (by simp) (fun r e=>by cases e))
          refine ⟨⟨cell_step e0 HB6'.out,cell_step e1 HB6'.out,cell_step e2 HB6'.out,cell_step e3 HB6'.out⟩,?_⟩
          rw [Nat.zero_add,List.nil_append] at hown6
          have HO6:=hid hown6
          have hz6:=HB6'.out.size
          clear hown6 hg6 hb6 hS0
          refine wpMix_next (t:=6) (by kernel_rfl) ?_
          simp only [opsAt,Ol]
          go_wp2
          have hB6n:=HB6'.out.new (.cells #[.int .i64 st,.int .i64 tm,.slice ka d.key.length kc,.slice na ns.length nc] 37)
          refine ⟨⟨cell_step e0 hB6n,cell_step e1 hB6n,cell_step e2 hB6n,cell_step e3 hB6n⟩,?_⟩
          clear e0 e1 e2 e3
          refine wpMix_rest [7,8] (by kernel_rfl) ?_
          simp only [opsAt,Ol]
          go_upto_region 25 with (at_builtin;go_loud (refine wpList_append_sl _ rfl _ _ 49 rfl V.heap.size 37 iL (.agg #[.int .i64 0,.int .i64 0,.slice none 0 0,.slice none 0 0]) 4 64 Tryz.underlying49 hiL hiz0 hiz1 hiz2 rfl (by decide) v1 p _ rfl (HO6.out.alloc _) (.slice (some ⟨w6.heap.size,0,none⟩) 1 1) 1 _ rfl (SlAt.new w6 #[.int .i64 st,.int .i64 tm,.slice ka d.key.length kc,.slice na ns.length nc] 37) (by simp [Value.oneCell']) (by unfold maxLen;omega) (by omega) (by simp;omega) ?_);intro v2 w7 hown7 hg7 hb7)
          have HB7':=hid (own_below (HO6.out.alloc (.cells #[.int .i64 st,.int .i64 tm,.slice ka d.key.length kc,.slice na ns.length nc] 37)) hg7 hB6n (Nat.le_refl _))
          have HO7:=hid hown7
          have hz7:=HB7'.out.size
          have HS7:=hid (HSR2.out w7 HB7'.out)
          obtain ⟨XS,hXS⟩:∃XS,(if oc'=p then oa2 else Option.map (fun x=>x.add (p*4)) oa2)=XS:=⟨_,rfl⟩
          rw [hXS] at HS7
          have hpT:(p:Int)≤(T.length:Int):=by omega
          clear hown7 hg7 hb7
          go_wp2_with (at_builtin;go_loud (refine wpList_append_sl _ rfl _ _ 49 rfl V.heap.size 37 iL (.agg #[.int .i64 0,.int .i64 0,.slice none 0 0,.slice none 0 0]) 4 64 Tryz.underlying49 hiL hiz0 hiz1 hiz2 rfl (by decide) v2 (p+1) _ rfl HO7.out (.slice XS (T.length-p) (oc'-p)) (T.length-p) _ rfl HS7.out (HONE.out _) (by unfold maxLen;omega) (by omega) (by omega) ?_);intro v3 w8 hown8 hg8 hb8)
          have HB8:=hid (own_below HO7.out hg8 HB7'.out (Nat.le_refl _))
          have HS8:=hid (show SlS (fun b=>w.heap.size≤b) w8 v3 (T.length+1) 4 (elCells (T.take p++[⟨⟨st,tm,ka,d.key.length,kc,na,ns.length,nc⟩,⟨d.key,ns⟩,j⟩]++T.drop p)) from by
           have h1:p+1+(T.length-p)=T.length+1:=by omega
           rw [h1] at hown8
           have h2:elCells (T.take p++[⟨⟨st,tm,ka,d.key.length,kc,na,ns.length,nc⟩,⟨d.key,ns⟩,j⟩]++T.drop p)=elCells (T.take p)++[.int .i64 st,.int .i64 tm,.slice ka d.key.length kc,.slice na ns.length nc]++elCells (T.drop p):=by unfold elCells;simp [LnV.cells]
           rw [h2]
           exact (SlS.own hown8).keep (fun b hb=>by have:=(hown8.lt b hb).1;omega) (fun _ _ _=>rfl))
          have HFIN:=hid (HPUT.out w8 v3 HB8.out HS8.out)
          clear hown8 hg8 hb8 hXS HS8 HO7 HS7 HPUT S5
          go_roundw
          case rel=>exact ⟨_,j+1,hjN,by go_num,HFIN.out⟩
          case measure=>simp [intOf];omega
         ·go_wp2
          have hBn:=((Below.refl V.heap.size V).new (.cells #[.int .i64 st,.int .i64 tm,.slice ka d.key.length kc,.slice na ns.length nc] 37)).drew
          refine ⟨⟨cell_step e0 hBn,cell_step e1 hBn,cell_step e2 hBn,cell_step e3 hBn⟩,?_⟩
          clear hS0
          refine wpMix_next (t:=4) (by kernel_rfl) ?_
          simp only [opsAt,Ol]
          go_wp2_with (at_builtin;go_loud (refine wpList_append_sl _ rfl _ _ 49 rfl V.heap.size 37 iL (.agg #[.int .i64 0,.int .i64 0,.slice none 0 0,.slice none 0 0]) 4 64 Tryz.underlying49 hiL hiz0 hiz1 hiz2 rfl (by decide) (.slice none 0 0) 0 _ rfl (World.ownsRow_nil _ _ _ _) (.slice oa2 p oc') p _ rfl (HSRC.out _ hBn) (HONE.out _) (by unfold maxLen;omega) (by omega) (by simp) ?_);intro v1 w6 hown6 hg6 hb6)
          have HB6':=hid (hBn.grown hg6 (by simp) (fun r e=>by cases e))
          have hsl6:=SlAt.grown_nil (SlAt.new V #[.int .i64 st,.int .i64 tm,.slice ka d.key.length kc,.slice na ns.length nc] 37) hg6
          refine ⟨⟨cell_step e0 HB6'.out,cell_step e1 HB6'.out,cell_step e2 HB6'.out,cell_step e3 HB6'.out⟩,?_⟩
          rw [Nat.zero_add,List.nil_append] at hown6
          have HO6:=hid hown6;have HSL6:=hid hsl6
          have hz6:=HB6'.out.size
          clear hown6 hg6 hb6 e0 e1 e2 e3 hsl6
          refine wpMix_rest [7,8] (by kernel_rfl) ?_
          simp only [opsAt,Ol]
          go_upto_region 25 with (at_builtin;go_loud (refine wpList_append_sl _ rfl _ _ 49 rfl V.heap.size 37 iL (.agg #[.int .i64 0,.int .i64 0,.slice none 0 0,.slice none 0 0]) 4 64 Tryz.underlying49 hiL hiz0 hiz1 hiz2 rfl (by decide) v1 p _ rfl HO6.out (.slice (some ⟨V.heap.size,0,none⟩) 1 1) 1 _ rfl HSL6.out (by simp [Value.oneCell']) (by unfold maxLen;omega) (by omega) (by omega) ?_);intro v2 w7 hown7 hg7 hb7)
          have HB7':=hid (own_below HO6.out hg7 HB6'.out (Nat.le_refl _))
          have HO7:=hid hown7
          have hz7:=HB7'.out.size
          have HS7:=hid (HSR2.out w7 HB7'.out)
          obtain ⟨XS,hXS⟩:∃XS,(if oc'=p then oa2 else Option.map (fun x=>x.add (p*4)) oa2)=XS:=⟨_,rfl⟩
          rw [hXS] at HS7
          have hpT:(p:Int)≤(T.length:Int):=by omega
          clear hown7 hg7 hb7
          go_wp2_with (at_builtin;go_loud (refine wpList_append_sl _ rfl _ _ 49 rfl V.heap.size 37 iL (.agg #[.int .i64 0,.int .i64 0,.slice none 0 0,.slice none 0 0]) 4 64 Tryz.underlying49 hiL hiz0 hiz1 hiz2 rfl (by decide) v2 (p+1) _ rfl HO7.out (.slice XS (T.length-p) (oc'-p)) (T.length-p) _ rfl HS7.out (HONE.out _) (by unfold maxLen;omega) (by omega) (by omega) ?_);intro v3 w8 hown8 hg8 hb8)
          have HB8:=hid (own_below HO7.out hg8 HB7'.out (Nat.le_refl _))
          have HS8:=hid (show SlS (fun b=>w.heap.size≤b) w8 v3 (T.length+1) 4 (elCells (T.take p++[⟨⟨st,tm,ka,d.key.length,kc,na,ns.length,nc⟩,⟨d.key,ns⟩,j⟩]++T.drop p)) from by
           have h1:p+1+(T.length-p)=T.length+1:=by omega
           rw [h1] at hown8
           have h2:elCells (T.take p++[⟨⟨st,tm,ka,d.key.length,kc,na,ns.length,nc⟩,⟨d.key,ns⟩,j⟩]++T.drop p)=elCells (T.take p)++[.int .i64 st,.int .i64 tm,.slice ka d.key.length kc,.slice na ns.length nc]++elCells (T.drop p):=by unfold elCells;simp [LnV.cells]
           rw [h2]
           exact (SlS.own hown8).keep (fun b hb=>by have:=(hown8.lt b hb).1;omega) (fun _ _ _=>rfl))
          have HFIN:=hid (HPUT.out w8 v3 HB8.out HS8.out)
          clear hown8 hg8 hb8 hXS HS8 HO7 HS7 HPUT S5
          go_roundw
          case rel=>exact ⟨_,j+1,hjN,by go_num,HFIN.out⟩
          case measure=>simp [intOf];omega
  ·obtain rfl:NG=j:=by omega
   have HER:Hid (linesErr ds ms g dq L gs=0):=by
    have:=hst.er
    rw [List.take_of_length_le (by rw [HNG.out];exact Nat.le_refl _)] at this
    exact this
   have HTK:=hid (fun k (hk:k≤T.length)=>(show SlS (fun b=>w.heap.size≤b) wr (.slice oa' k oc') k 4 (elCells (T.take k)) from by
    have h2:=hst.at_.take hk
    unfold elCells at h2 ⊢
    rw [flat_take 4 (fun e:El=>e.v.cells.toList) (fun _=>rfl)] at h2
    exact h2))
   have HIX:Hid ((T.map (·.i)).Perm (keptI ds ms g dq gs)):=by
    have:=hst.ix
    rw [List.take_of_length_le (by rw [HNG.out];exact Nat.le_refl _)] at this
    exact this
   have k13:=cell_blk (i:=13) (x:= .int .i64 dq.limit) hst.bq rfl
   have HFIN:=hid (fun (h:True)=>And.intro hst.so (And.intro hst.td (And.intro hst.el hst.bel)))
   clear hst
   by_cases hl:0<dq.limit
   ·have hld:decide ((0:Int)<dq.limit)=true:=by simpa using hl
    by_cases hl2:dq.limit<(T.length:Int)
    ·obtain ⟨m,hm⟩:=Int.eq_ofNat_of_zero_le (show 0≤dq.limit by omega)
     have HLN:Hid (limN dq.limit T.length=m):=by unfold Hid limN;rw [if_pos hl,hm];simp;omega
     have HML:Hid (m≤T.length):=by unfold Hid;omega
     have HM:=hid hm
     rw [hm] at k13 hl hl2 hld
     have hl3:(m:Int)≤(oc':Int):=by omega
     have hl4:(0:Int)≤(m:Int):=by omega
     go_wp2
     go_ret2
     exact ⟨.slice oa' m oc',by rw [HER.out];rfl,(HFIN.out trivial).2.2.2,.inr ⟨HER.out,T,HIX.out,(HFIN.out trivial).1,(HFIN.out trivial).2.1,(HFIN.out trivial).2.2.1,by rw [HLN.out];exact HTK.out m HML.out⟩⟩
    ·have hl3:decide (dq.limit<(T.length:Int))=false:=by simpa using hl2
     have HLN:Hid (limN dq.limit T.length=T.length):=by unfold Hid limN;rw [if_pos hl];omega
     go_wp2
     go_ret2
     exact ⟨.slice oa' T.length oc',by rw [HER.out];rfl,(HFIN.out trivial).2.2.2,.inr ⟨HER.out,T,HIX.out,(HFIN.out trivial).1,(HFIN.out trivial).2.1,(HFIN.out trivial).2.2.1,by rw [HLN.out];exact HTK.out _ (Nat.le_refl _)⟩⟩
   ·have hld:decide ((0:Int)<dq.limit)=false:=by simpa using hl
    have HLN:Hid (limN dq.limit T.length=T.length):=by unfold Hid limN;rw [if_neg hl]
    go_wp2
    go_ret2
    exact ⟨.slice oa' T.length oc',by rw [HER.out];rfl,(HFIN.out trivial).2.2.2,.inr ⟨HER.out,T,HIX.out,(HFIN.out trivial).1,(HFIN.out trivial).2.1,(HFIN.out trivial).2.2.1,by rw [HLN.out];exact HTK.out _ (Nat.le_refl _)⟩⟩
end Go.Proofs.YtejleplhmkmegaaGreatDoor
