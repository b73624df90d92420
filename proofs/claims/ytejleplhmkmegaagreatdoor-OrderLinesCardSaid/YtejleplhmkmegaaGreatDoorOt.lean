/- Texts joined: OtO, OtP, OtQ, OtR. -/
import Derived.Test.YtejleplhmkmegaaGreatDoorOr
import Derived.Test.YtejleplhmkmegaaGreatDoorOs
import Derived.Test.YtejleplhmkmegaaGreatDoorOk
set_option linter.unusedVariables false
set_option linter.unusedSimpArgs false
namespace Go.Proofs.YtejleplhmkmegaaGreatDoor
set_option maxRecDepth 100000
open Go.ChangeShapes Go.WideShapes Go.ChangeAt Go.RowKit Go.Joins Go.Deep Go.Fl
def fewG (d:GroupD):GroupD:=⟨d.st,d.tm,valsCut d.key,d.n,d.sums.take 10,d.mins.take 10,d.maxs.take 10⟩
set_option maxHeartbeats 4000000 in
theorem fewGrp_some (vd:Value) (st tm n:Int) (sa:Option Addr) (sn sc:Nat) (ma:Option Addr) (mn mc:Nat) (xa:Option Addr) (xn xc:Nat) (l:List ValD) (w:World) (hv:ValsSl w vd l) (hl:∀v∈l,v.s.size≤9223372036854775807)
  (s1:sn≤sc) (s2:sc≤maxLen) (s3:sa=none→sc=0) (m1:mn≤mc) (m2:mc≤maxLen) (m3:ma=none→mc=0) (x1:xn≤xc) (x2:xc≤maxLen) (x3:xa=none→xc=0):
  Calls Tryz.prog 26 #[.agg #[.int .i64 st,.int .i64 tm,vd,.int .i64 n,.slice sa sn sc,.slice ma mn mc,.slice xa xn xc]] w fun e w'=>∃v',e= .returned (.agg #[.int .i64 st,.int .i64 tm,v',.int .i64 n,.slice sa (min sn 10) sc,.slice ma (min mn 10) mc,.slice xa (min xn 10) xc])∧w'.ownsRow (w.heap.size+1+1) 65 2 v' (valsCut l).length ((valsCut l).flatMap ValD.cells)∧Below w.heap.size w w':=by
 obtain ⟨ad,cd,rfl,hcd,hcd2,_⟩:=SlAt.shape hv
 have HV:=hid (fun W (h:Below w.heap.size w W)=>vals_any _ l W (hv.below h) hl)
 clear hv
 unfold maxLen at s2 m2 x2
 obtain ⟨S,hS⟩:∃S,min sn 10=S:=⟨_,rfl⟩
 obtain ⟨M,hM⟩:∃M,min mn 10=M:=⟨_,rfl⟩
 obtain ⟨X,hX⟩:∃X,min xn 10=X:=⟨_,rfl⟩
 have p1:(min (sn:Int) 10).toNat=S:=by omega
 have p2:(min (mn:Int) 10).toNat=M:=by omega
 have p3:(min (xn:Int) 10).toNat=X:=by omega
 rw [hS,hM,hX]
 clear hS hM hX
 generalize (valsCut l).length=N at*
 generalize (valsCut l).flatMap ValD.cells=R at*
 generalize l.length=L at*
 have im:=ite_min
 have q1:(0:Int)≤min (sn:Int) 10:=by omega
 have q2:min (sn:Int) 10≤(sc:Int):=by omega
 have r1:(0:Int)≤min (mn:Int) 10:=by omega
 have r2:min (mn:Int) 10≤(mc:Int):=by omega
 have t1:(0:Int)≤min (xn:Int) 10:=by omega
 have t2:min (xn:Int) 10≤(xc:Int):=by omega
 go_enter Tryz.func26,Tryz.ntmps26
 go_wp2_with fail
 obtain ⟨W0,hW0⟩:∃W0,(w.alloc (.cells #[.int .i64 st,.int .i64 tm,.slice ad L cd,.int .i64 n,.slice sa sn sc,.slice ma mn mc,.slice xa xn xc] 79)).alloc (.cells #[.int .i64 0,.int .i64 0,.slice none 0 0,.int .i64 0,.slice none 0 0,.slice none 0 0,.slice none 0 0] 79)=W0:=⟨_,rfl⟩
 have hB0:Below w.heap.size w W0:=by rw [←hW0];exact Gr
 have hz0:W0.heap.size=w.heap.size+1+1:=by rw [←hW0];simp
 have hg0:W0.heap[w.heap.size]? =some (.cells #[.int .i64 st,.int .i64 tm,.slice ad L cd,.int .i64 n,.slice sa sn sc,.slice ma mn mc,.slice xa xn xc] 79 (0,0)):=by rw [←hW0];exact Bk
 have ho0:W0.heap[w.heap.size+1]? =some (.cells #[.int .i64 0,.int .i64 0,.slice none 0 0,.int .i64 0,.slice none 0 0,.slice none 0 0,.slice none 0 0] 79 (0,0)):=by rw [←hW0];exact Bk
 rw [hW0]
 clear hW0
 have e0:W0.cell? ⟨w.heap.size,0,none⟩=some (.int .i64 st):=cell_blk hg0 rfl
 have e1:W0.cell? ⟨w.heap.size,1,none⟩=some (.int .i64 tm):=cell_blk hg0 rfl
 have e2:W0.cell? ⟨w.heap.size,2,none⟩=some (.slice ad L cd):=cell_blk hg0 rfl
 have e3:W0.cell? ⟨w.heap.size,3,none⟩=some (.int .i64 n):=cell_blk hg0 rfl
 have e4:W0.cell? ⟨w.heap.size,4,none⟩=some (.slice sa sn sc):=cell_blk hg0 rfl
 have e5:W0.cell? ⟨w.heap.size,5,none⟩=some (.slice ma mn mc):=cell_blk hg0 rfl
 have e6:W0.cell? ⟨w.heap.size,6,none⟩=some (.slice xa xn xc):=cell_blk hg0 rfl
 have hS0:(fun w':World=>w'.cell? ⟨w.heap.size,0,none⟩=some (.int .i64 st)∧w'.cell? ⟨w.heap.size,1,none⟩=some (.int .i64 tm)∧w'.cell? ⟨w.heap.size,2,none⟩=some (.slice ad L cd)∧w'.cell? ⟨w.heap.size,3,none⟩=some (.int .i64 n)∧w'.cell? ⟨w.heap.size,4,none⟩=some (.slice sa sn sc)∧w'.cell? ⟨w.heap.size,5,none⟩=some (.slice ma mn mc)∧w'.cell? ⟨w.heap.size,6,none⟩=some (.slice xa xn xc)) W0.drew:=⟨e0,e1,e2,e3,e4,e5,e6⟩
 refine wp_region_some (fun w':World=>w'.cell? ⟨w.heap.size,0,none⟩=some (.int .i64 st)∧w'.cell? ⟨w.heap.size,1,none⟩=some (.int .i64 tm)∧w'.cell? ⟨w.heap.size,2,none⟩=some (.slice ad L cd)∧w'.cell? ⟨w.heap.size,3,none⟩=some (.int .i64 n)∧w'.cell? ⟨w.heap.size,4,none⟩=some (.slice sa sn sc)∧w'.cell? ⟨w.heap.size,5,none⟩=some (.slice ma mn mc)∧w'.cell? ⟨w.heap.size,6,none⟩=some (.slice xa xn xc)) [30,31] (by kernel_rfl) ?_
 refine Tk 0 hS0 ?_
 refine Tk 1 hS0 ?_
 refine Tk 2 hS0 ?_
 refine Tk 3 hS0 ?_
 refine Tk 4 hS0 ?_
 refine Tk 5 hS0 ?_
 refine Tk 7 hS0 ?_
 refine Tk 8 hS0 ?_
 refine Tk 9 hS0 ?_
 refine Tk 10 hS0 ?_
 refine Tk 11 hS0 ?_
 refine Tk 12 hS0 ?_
 refine Tk 13 hS0 ?_
 refine Tk 14 hS0 ?_
 refine Tk 15 hS0 ?_
 refine Tk 16 hS0 ?_
 refine Tk 17 hS0 ?_
 refine Tk 18 hS0 ?_
 refine Tk 19 hS0 ?_
 refine Tk 20 hS0 ?_
 refine Tk 21 hS0 ?_
 refine Tk 22 hS0 ?_
 refine Tk 23 hS0 ?_
 refine Tk 24 hS0 ?_
 refine Tk 25 hS0 ?_
 refine Tk 26 hS0 ?_
 refine Tk 27 hS0 ?_
 refine Tk 28 hS0 ?_
 refine Tk 29 hS0 ?_
 refine wpMix_next (t:=6) (by kernel_rfl) ?_
 simp only [opsAt,Ol]
 go_wp2_with (go_at_call 24;go_loud ((with_reducible refine (HV.out _ (Below.drew hB0)).mono ?_);rintro e w1 ⟨v',rfl,hown,hb1⟩))
 have hb2:Below W0.heap.size W0 w1:=(Below.drew (Below.refl _ _)).trans hb1
 refine ⟨⟨cell_step e0 hb2,cell_step e1 hb2,cell_step e2 hb2,cell_step e3 hb2,cell_step e4 hb2,cell_step e5 hb2,cell_step e6 hb2⟩,?_⟩
 have ho1:=hid (blk_below ho0 hb2)
 have HB1:=hid hb2
 obtain ⟨a1,cc1,rfl⟩:∃ao cap,v'= .slice ao N cap:=by
  obtain ⟨ao,cap,h,_⟩:=SlAt.shape (SlAt.own hown)
  exact ⟨ao,cap,h⟩
 have HO1:=hid hown
 clear hS0 e0 e1 e2 e3 e4 e5 e6 hb1 hb2 hown hg0 ho0
 refine wpMix_rest [30,31] (by kernel_rfl) ?_
 simp only [opsAt,Ol]
 go_wp2_with (go_loud (refine wpList_store_blk rfl _ _ _ rfl _ _ rfl rfl _ _ ho1.out (by exact ginfo7) (by rfl) (by simp [Value.oneCell']) ?_;intro y2 hh3 hg3 hz3))
 have r0:=cell_blk (i:=0) (x:= .int .i64 st) hh3 rfl
 have r1:=cell_blk (i:=1) (x:= .int .i64 tm) hh3 rfl
 have r2:=cell_blk (i:=2) (x:= .slice a1 N cc1) hh3 rfl
 have r3:=cell_blk (i:=3) (x:= .int .i64 n) hh3 rfl
 have r4:=cell_blk (i:=4) (x:= .slice sa S sc) hh3 rfl
 have r5:=cell_blk (i:=5) (x:= .slice ma M mc) hh3 rfl
 have r6:=cell_blk (i:=6) (x:= .slice xa X xc) hh3 rfl
 have HB2:Hid (Below w.heap.size w y2):=(hB0.trans (HB1.out.mono (by omega))).grown hg3 (by have:=HB1.out.size;omega) (fun r e=>by cases e;omega)
 have HO2:Hid (y2.ownsRow (w.heap.size+1+1) 65 2 (.slice a1 N cc1) N R):=by
  have h1:=HO1.out.base_le (b':=w.heap.size+1+1) (by simp only [World.size_drew];omega)
  exact h1.kept hg3 (.inr fun e=>by have:=(h1.lt _ e).1;omega)
 clear hh3 hg3 hz3 ho1 HB1 HO1
 go_upto_region 31 with fail
 ((show bodyPost _ _ _ _ _ _);refine bodyPost_ret (by simp only [results,Tryz.results26];go_simp;try rfl) rfl ?_)
 exact ⟨_,rfl,HO2.out,HB2.out⟩
structure GrpsOk (gs:List GroupD):Prop where
 len:gs.length≤1000
 key:∀d∈gs,d.key.length≤1000000
 ok:∀d∈gs,GrpOk d
 sm:∀d∈gs,GSm d
structure QOk (D:Nat) (dq:QryD):Prop where
 sm:QSm dq
 kinds:∀a∈dq.aggs,I64 a.kind
 conds:∀c∈dq.having,I64 c.op∧I64 c.n
 limit:I64 dq.limit
 fil:FilSm D dq.wher
theorem lines_any (S:Nat→Prop) (D:Nat) (q:QryV) (dq:QryD) (vd vm:Value) (la:Option Addr) (lc:Nat) (vs:List GrpV) (gs:List GroupD) (ds ms:List ByteArray) (g:Int) (am an:Addr) (w:World) (hd:StrsSl w vd ds) (hm:StrsSl w vm ms) (td:Texts ds) (tm:Texts ms)
  (hgs:GrpsN (fun _=>True) w (.slice la gs.length lc) vs gs) (gok:GrpsOk gs) (hq:QryIs w q dq) (qok:QOk D dq)
  (hf:FilS S w D [.int .i64 q.kind,.string q.name,.slice q.wa q.wn q.wc,.int .i64 q.fr,.int .i64 q.till,.slice q.la q.ln q.lc] dq.wher) (hS:SentF am an w) (hT:TypeR w):
  Calls Tryz.prog 15 #[.agg #[vd,vm,.int .i64 g],.agg q.cells,.slice la gs.length lc] w (LinesPost ds ms g dq (flatN D 1 dq.wher) gs w):=by
 have HC:=fun W (h:Below w.heap.size w W)=>qcheck_any S D q dq vd vm ds ms g am an W (hd.below h) (hm.below h) td tm (hq.all.below h).is qok.sm (hf.below h) qok.fil (hS.below h)
 by_cases h0:checkQ ds ms g dq (flatN D 1 dq.wher)=0
 ·refine lines_go q dq _ vd vm la lc vs gs ds ms g w hd hm hgs gok.key gok.ok gok.len hq qok.sm qok.conds (isOfB_parts (checkQ_typed h0)).2.2.1 qok.limit HC h0 (fun W x d hb hdm hx=> ?_)
  exact nums_any S D x d q dq vd vm ds ms g am an W (hd.below hb) (hm.below hb) td tm hx (gok.ok d hdm) (gok.sm d hdm) (hq.all.below hb).is qok.sm qok.kinds (hf.below hb) qok.fil (hS.below hb) (hT.below hb)
 ·exact lines_early q dq _ vd vm _ ds ms g gs w hd hm HC h0
theorem GrpN.lt {S:Nat→Prop} {w:World} {v:GrpV} {d:GroupD} (h:GrpN S w v d):GrpN (fun b=>S b∧b<w.heap.size) w v d:=⟨h.st,h.tm,h.key.lt,h.n,h.sums.lt,h.mins.lt,h.maxs.lt⟩
theorem slints_take {S:Nat→Prop} {w:World} {an:Option Addr} {cn:Nat} {xs:List Int} (h:SlS S w (.slice an xs.length cn) xs.length 1 (xs.map (Value.int .i64))) (k:Nat):SlS S w (.slice an (min xs.length k) cn) (xs.take k).length 1 ((xs.take k).map (Value.int .i64)):=by
 rw [←flat_one] at h ⊢
 exact SlS.take_flat (fun z=>[Value.int .i64 z]) 1 (fun _=>rfl) h k
theorem fewGrp_any (S0:Nat→Prop) (x:GrpV) (d:GroupD) (w:World) (h:GrpN S0 w x d) (hl:∀v∈d.key,v.s.size≤9223372036854775807):
  Calls Tryz.prog 26 #[.agg x.cells] w fun e w'=>∃x',e= .returned (.agg x'.cells)∧GrpN (fun b=>S0 b∧b<w.heap.size∨w.heap.size+1+1≤b) w' x' (fewG d)∧Below w.heap.size w w':=by
 obtain ⟨s0,s1,s2,s3,_⟩:=SlAt.parts h.sums.sl
 obtain ⟨m0,m1,m2,m3,_⟩:=SlAt.parts h.mins.sl
 obtain ⟨x0,x1,x2,x3,_⟩:=SlAt.parts h.maxs.sl
 obtain ⟨k0,k1,k2,k3,_⟩:=SlAt.parts h.key.sl
 have hk:=h.key.sl
 have h1:=h.sums;have h2:=h.mins;have h3:=h.maxs
 refine (fewGrp_some (.slice x.ka x.kn x.kc) x.st x.tm x.n x.sa x.sn x.sc x.ma x.mn x.mc x.xa x.xn x.xc d.key w hk hl (by omega) s2 s3 (by omega) m2 m3 (by omega) x2 x3).mono ?_
 rintro e w' ⟨v',rfl,ho,hb⟩
 obtain ⟨ao,cap,rfl,_⟩:=SlAt.shape (SlAt.own ho)
 rw [s0] at h1;rw [m0] at h2;rw [x0] at h3
 have t1:=SlS.take_flat wcells 2 wcells_len h1.lt 10
 have t2:=slints_take h2.lt 10
 have t3:=slints_take h3.lt 10
 refine ⟨⟨x.st,x.tm,ao,_,cap,x.n,x.sa,min x.sn 10,x.sc,x.ma,min x.mn 10,x.mc,x.xa,min x.xn 10,x.xc⟩,rfl,⟨h.st,h.tm,?_,h.n,?_,?_,?_⟩,hb⟩
 ·exact (SlS.own ho).keep (fun b hb=> .inr (ho.lt b hb).1) (fun _ _ _=>rfl)
 ·rw [s0]
  exact t1.keep (fun b hb=> .inl hb) (fun b hb' _=>hb.block b hb'.2)
 ·rw [m0]
  exact t2.keep (fun b hb=> .inl hb) (fun b hb' _=>hb.block b hb'.2)
 ·rw [x0]
  exact t3.keep (fun b hb=> .inl hb) (fun b hb' _=>hb.block b hb'.2)
def fewGs (gs:List GroupD):List GroupD:=(gs.take 100).map fewG
theorem info_group:(Tryz.prog.info? 79).map (fun i=>(i.zero,i.size,i.bytes))=some (some (.agg #[.int .i64 0,.int .i64 0,.slice none 0 0,.int .i64 0,.slice none 0 0,.slice none 0 0,.slice none 0 0]),7,120):=by kernel_rfl
structure GrpSt (K0:Nat→Prop) (gs:List GroupD) (w:World) (v:Value) (vs:List GrpV) (j:Nat) (X:World):Prop where
 own:X.ownsRow w.heap.size 79 7 v j (vs.flatMap GrpV.list)
 len:vs.length=j
 at_:∀(i:Nat) (x:GrpV) (d:GroupD),vs[i]? =some x→gs[i]? =some d→GrpN (fun b=>K0 b∨w.heap.size≤b∧some b≠v.ownBlock) X x (fewG d)
 bel:Below w.heap.size w X
theorem GrpSt.step {K0:Nat→Prop} {gs:List GroupD} {w:World} {v:Value} {vs:List GrpV} {j:Nat} {X Y:World} (h:GrpSt K0 gs w v vs j X) (hb:Below X.heap.size X Y):GrpSt K0 gs w v vs j Y:=
 ⟨row_below h.own hb,h.len,fun i x d hx hd=>(h.at_ i x d hx hd).below hb,h.bel.step hb⟩
theorem GrpSt.push {K0:Nat→Prop} {w:World} (hK:∀b,K0 b→b<w.heap.size) {gs:List GroupD} {v v':Value} {vs:List GrpV} {j:Nat} {X Y:World} (h:GrpSt K0 gs w v vs j X) {u:GrpV} {d:GroupD} (hd:gs[j]? =some d) (hu:GrpN (fun b=>K0 b∨w.heap.size≤b∧some b≠v.ownBlock) X u (fewG d))
  (ho:Y.ownsRow w.heap.size 79 7 v' (j+1) (vs.flatMap GrpV.list++u.list)) (hg:X.grownBy Y v.ownBlock) (hv:v'.ownBlock=v.ownBlock∨v'.ownBlock=some X.heap.size):GrpSt K0 gs w v' (vs++[u]) (j+1) Y:=by
 have hk:∀(x:GrpV) (l:GroupD),GrpN (fun b=>K0 b∨w.heap.size≤b∧some b≠v.ownBlock) X x l→GrpN (fun b=>K0 b∨w.heap.size≤b∧some b≠v'.ownBlock) Y x l:=fun x l hx=>
  hx.lt.keep (fun b hb=>by
   rcases hb.1 with h1|⟨h1,h2⟩
   ·exact .inl h1
   ·refine .inr ⟨h1,?_⟩
    rcases hv with e|e
    ·rw [e];exact h2
    ·rw [e];intro e2;have:=Option.some.inj e2;omega) (fun b hb hlt=>hg.block b hlt (fun e=>by
   rcases hb.1 with h1|⟨h1,h2⟩
   ·have:=hK b h1
    have:=(h.own.lt b e.symm).1
    omega
   ·exact h2 e))
 refine ⟨by rw [List.flatMap_append];simpa using ho,by rw [List.length_append,h.len];rfl,fun i x d' hx hd'=> ?_,own_below h.own hg h.bel (Nat.le_refl _)⟩
 by_cases hi:i<vs.length
 ·rw [List.getElem?_append_left hi] at hx
  exact hk _ _ (h.at_ i x d' hx hd')
 ·have hi2:=(List.getElem?_eq_some_iff.1 hx).1
  rw [List.length_append,List.length_singleton] at hi2
  have hij:i=j:=by have:=h.len;omega
  subst hij
  rw [List.getElem?_append_right (by omega),h.len,Nat.sub_self] at hx
  simp only [List.getElem?_cons_zero,Option.some.injEq] at hx
  rw [hd] at hd'
  rw [←hx,←Option.some.inj hd']
  exact hk _ _ hu
def GroupsPost (S0:Nat→Prop) (gs:List GroupD) (w:World) (M:Nat) (e:Ending) (w':World):Prop:=
 ∃ao cap vs',e= .returned (.slice ao M cap)∧GrpsN (fun b=>S0 b∧b<w.heap.size∨w.heap.size≤b) w' (.slice ao M cap) vs' (fewGs gs)∧Below w.heap.size w w'
set_option maxHeartbeats 8000000 in
theorem groups_any (S0:Nat→Prop) (la:Option Addr) (lc:Nat) (vs:List GrpV) (gs:List GroupD) (w:World) (hgs:GrpsN S0 w (.slice la gs.length lc) vs gs) (hl:∀d∈gs,∀v∈d.key,v.s.size≤9223372036854775807) (hgl:gs.length≤9223372036854775807):
  Calls Tryz.prog 14 #[.slice la gs.length lc] w (GroupsPost S0 gs w (fewGs gs).length):=by
 obtain ⟨iG,hi,hiz0,hiz1,hiz2⟩:=info_parts info_group
 have HG:Hid (GrpsN (fun b=>S0 b∧b<w.heap.size) w (.slice la gs.length lc) vs gs):=⟨hgs.len,hgs.sl.lt,fun i x d hx hd=>(hgs.at_ i x d hx hd).lt⟩
 have HL:=hid hl
 obtain ⟨NG,hNG⟩:∃NG,gs.length=NG:=⟨_,rfl⟩
 have HNG:=hid hNG
 have hfl:(fewGs gs).length=min 100 gs.length:=by unfold fewGs;rw [List.length_map,List.length_take]
 obtain ⟨M,hM⟩:∃M,(fewGs gs).length=M:=⟨_,rfl⟩
 have HM:=hid hM
 have HMN:Hid (M=min 100 NG):=by unfold Hid;omega
 rw [hNG] at hgl ⊢
 rw [hM]
 clear hgs hl hNG hfl hM
 go_enter Tryz.func14,Tryz.ntmps14
 go_wp2
 go_loopw [3,4] (fun ov iv wr=>∃(j:Nat) (vs':List GrpV),j≤M∧iv= .int .i64 (j:Int)∧GrpSt (fun b=>S0 b∧b<w.heap.size) gs w ov vs' j wr) (fun _ iv _=>NG-(intOf iv).toNat)
 case atStart=>exact ⟨0,[],Nat.zero_le _,rfl,World.ownsRow_nil _ _ _ _,rfl,(fun i x d hx=>by simp at hx),Below.refl _ _⟩
 case round=>
  obtain ⟨j,vs',hj,rfl,hst⟩:=hrel
  have HST:=hid hst
  have hjNG:j≤NG:=by have:=HMN.out;omega
  by_cases hjN:j<NG
  ·have d1:decide (j<NG)=true:=by simpa using hjN
   by_cases hj1:j<100
   ·have d2:decide (j<100)=true:=by simpa using hj1
    have hjg:j<gs.length:=by rw [HNG.out];exact hjN
    have hgn':=HG.out.below hst.bel
    obtain ⟨b,off,x,d,rfl,hx,hd,hgn,c0,c1,c2,c3,c4,c5,c6⟩:=hgn'.cells hjg
    have hdm:d∈gs:=List.mem_of_getElem? hd
    have FEW:=hid (fun W (hb:Below wr.heap.size wr W)=>fewGrp_any (fun b=>S0 b∧b<w.heap.size) x d W (hgn.below hb) (HL.out d hdm))
    have HD:=hid hd
    have hwl:=hst.bel.size
    have hblt:=World.block_lt_of_cell? _ _ c0
    dsimp only at hblt
    obtain ⟨st,tm,ka,kn,kc,n,sa,sn,sc,ma,mn,mc,xa,xn,xc⟩:=x
    dsimp only [GrpV.cells,GrpV.list] at c0 c1 c2 c3 c4 c5 c6 FEW
    have q1:(0:Int)≤(j:Int):=by omega
    have q2:(j:Int)<(NG:Int):=by omega
    have q3:(j:Int)<100:=by omega
    clear hst hx hgn hgn' hd hdm hjg
    go_wp2_with (first
     |(go_at_call 26;go_loud ((with_reducible refine (FEW.out _ (Below.refl _ _)).mono ?_);rintro e x1 ⟨⟨st',tm',ka',kn',kc',n',sa',sn',sc',ma',mn',mc',xa',xn',xc'⟩,rfl,hn1,hb1⟩;have hz1:=hb1.size;have HN1:=hid hn1;have HB1:=hid hb1;clear hn1 hb1))
     |(at_builtin;go_loud (refine wpList_append_sl _ rfl _ _ 46 rfl w.heap.size 79 iG (.agg #[.int .i64 0,.int .i64 0,.slice none 0 0,.int .i64 0,.slice none 0 0,.slice none 0 0,.slice none 0 0]) 7 120 Tryz.underlying46 hi hiz0 hiz1 hiz2 rfl (by decide) _ j _ rfl ((HST.out.step HB1.out).own.alloc _) (.slice (some ⟨x1.heap.size,0,none⟩) 1 1) 1 [.int .i64 st',.int .i64 tm',.slice ka' kn' kc',.int .i64 n',.slice sa' sn' sc',.slice ma' mn' mc',.slice xa' xn' xc'] rfl (SlAt.new x1 #[.int .i64 st',.int .i64 tm',.slice ka' kn' kc',.int .i64 n',.slice sa' sn' sc',.slice ma' mn' mc',.slice xa' xn' xc'] 79) (by simp [Value.oneCell']) (by unfold maxLen;omega) (by omega) (by simp;omega) ?_);intro v1 x7 hown1 hgrow1 hb1))
    have hlt3:=fun b e=>(HST.out.own.lt b e).2
    have hu:GrpN (fun b=>(S0 b∧b<w.heap.size)∨w.heap.size≤b∧some b≠u3.ownBlock) (x1.alloc (.cells #[.int .i64 st',.int .i64 tm',.slice ka' kn' kc',.int .i64 n',.slice sa' sn' sc',.slice ma' mn' mc',.slice xa' xn' xc'] 79)) ⟨st',tm',ka',kn',kc',n',sa',sn',sc',ma',mn',mc',xa',xn',xc'⟩ (fewG d):=
     HN1.out.keep (fun b hb=>by
      rcases hb with h1|h1
      ·exact .inl h1.1
      ·exact .inr ⟨by omega,fun e=>by have:=hlt3 b e.symm;omega⟩) (fun b _ hl=>heap_past hl)
    have HP:=hid (((HST.out.step HB1.out).step ((Below.refl _ _).new _)).push (fun b hb=>hb.2) HD.out hu hown1 hgrow1 hb1)
    clear hu hown1 hgrow1 hb1
    go_roundw
    case rel=>exact ⟨j+1,_,by have:=HMN.out;omega,by go_num,HP.out⟩
    case measure=>simp [intOf];omega
   ·have d2:decide (j<100)=false:=by simpa using hj1
    have q3:¬(j:Int)<100:=by omega
    obtain rfl:j=M:=by have:=HMN.out;omega
    clear hst
    obtain ⟨ao,cap,rfl,_⟩:=SlAt.shape (SlAt.own HST.out.own)
    go_wp2
    ((show bodyPost _ _ _ _ _ _);refine bodyPost_ret (by simp only [results,Tryz.results14];go_simp;try rfl) rfl ?_)
    refine ⟨ao,cap,vs',rfl,⟨by rw [HM.out];exact HST.out.len,?_,fun i x d' hx hd'=> ?_⟩,HST.out.bel⟩
    ·rw [HM.out];exact (SlS.own HST.out.own).keep (fun b hb=> .inr (HST.out.own.lt b hb).1) (fun _ _ _=>rfl)
    ·unfold fewGs at hd'
     rw [List.getElem?_map,List.getElem?_take] at hd'
     split at hd'
     ·obtain ⟨d,h1,rfl⟩:=Option.map_eq_some_iff.1 hd'
      exact (HST.out.at_ i x d hx h1).keep (fun b hb=>by rcases hb with h|h;exact .inl h;exact .inr h.1) (fun _ _ _=>rfl)
     ·simp at hd'
  ·have d1:decide (j<NG)=false:=by simpa using hjN
   obtain rfl:j=M:=by have:=HMN.out;omega
   clear hst
   obtain ⟨ao,cap,rfl,_⟩:=SlAt.shape (SlAt.own HST.out.own)
   go_wp2
   ((show bodyPost _ _ _ _ _ _);refine bodyPost_ret (by simp only [results,Tryz.results14];go_simp;try rfl) rfl ?_)
   refine ⟨ao,cap,vs',rfl,⟨by rw [HM.out];exact HST.out.len,?_,fun i x d' hx hd'=> ?_⟩,HST.out.bel⟩
   ·rw [HM.out];exact (SlS.own HST.out.own).keep (fun b hb=> .inr (HST.out.own.lt b hb).1) (fun _ _ _=>rfl)
   ·unfold fewGs at hd'
    rw [List.getElem?_map,List.getElem?_take] at hd'
    split at hd'
    ·obtain ⟨d,h1,rfl⟩:=Option.map_eq_some_iff.1 hd'
     exact (HST.out.at_ i x d hx h1).keep (fun b hb=>by rcases hb with h|h;exact .inl h;exact .inr h.1) (fun _ _ _=>rfl)
    ·simp at hd'
theorem slS_all {w:World} {v:Value} {n size:Nat} {cs:List Value} (h:SlAt w v n size cs):SlS (fun _=>True) w v n size cs:=(SlAt.all h).keep (fun _ _=>trivial) (fun _ _ _=>rfl)
section
variable {H:Type} {enc:TypeId×Value→H} {W:World} {base:Nat}
theorem wide_of {cs:List Value} {k:Nat} {y:DataW H×List MemPlace} (h:DataW.trod enc Tryz.prog W 0 (fun _=>true) true k 126 cs=some y):∃n:Int,cs=wcells n∧I128 n:=by
 obtain ⟨y0,y1,n,_,hl,h0,h1⟩:=trod_struct2 Tryz.underlying126 h
 have hC:Tryz.prog.cellsOf 126=2:=by kernel_rfl
 rw [hC] at hl
 match cs,hl with
 |[a,b],_=>
  obtain ⟨hi,e0,_,p0⟩:=DataW.trod_int Tryz.underlying2 h0
  obtain ⟨lo,e1,_,p1⟩:=DataW.trod_int Tryz.underlying95 h1
  have c0:Tryz.prog.cellsOf 2=1:=by kernel_rfl
  have c1:Tryz.prog.cellsOf 95=1:=by kernel_rfl
  rw [c0] at e0
  rw [c1] at e1
  simp at e0 e1
  subst e0 e1
  have q0:=i64_of_wf p0
  have q1:=u64_of_wf p1
  refine ⟨hi*18446744073709551616+lo,?_,?_⟩
  ·unfold wcells
   have w1:hiW (hi*18446744073709551616+lo)=hi:=by unfold hiW;unfold I64 at q0;unfold U64 at q1;omega
   have w2:loW (hi*18446744073709551616+lo)=lo:=by unfold loW;unfold U64 at q1;omega
   rw [w1,w2]
  ·unfold I128;unfold I64 at q0;unfold U64 at q1;omega
theorem open_wides {t:TypeId} (ht:Tryz.prog.underlying t=some (.slice 126)) {v:Value} {fuel:Nat} {x:DataW H×List MemPlace} (h:DataW.trod enc Tryz.prog W 0 (fun _=>true) true fuel t [v]=some x):
  ∃l:List Int,WidesSl W v l∧∀k∈l,I128 k:=by
 obtain ⟨ao,len,cap,rfl,h1,h2,h3,hA⟩:=open_sl 2 ht (by kernel_rfl) (by decide) h
 by_cases h0:0<len
 ·obtain ⟨b,off,rfl,hc⟩:=hA h0
  obtain ⟨l,hl,hR,hcells⟩:=sl_of (W:=W) (n:=2) (len:=len) (f:=wcells) wcells_len (by decide) (b:=b) (off:=off) (fun v=>I128 v) (fun i hi=>by
   obtain ⟨cs,k,y,hl,hcell,ht'⟩:=hc i hi
   obtain ⟨v,hv,hsz⟩:=wide_of ht'
   subst hv
   exact ⟨v,hsz,hcell⟩)
  subst hl
  exact ⟨l,⟨flat_len 2 _ wcells_len l,_,cap,rfl,h1,h2,(fun h=>by cases h),fun _=>⟨b,off,rfl,hcells⟩⟩,hR⟩
 ·obtain rfl:len=0:=by omega
  exact ⟨[],⟨by simp,ao,cap,rfl,h1,h2,h3,fun h=>by simp at h⟩,by simp⟩
theorem group_of {cs:List Value} {k:Nat} {y:DataW H×List MemPlace} (h:DataW.trod enc Tryz.prog W 0 (fun _=>true) true k 79 cs=some y):
  ∃(x:GrpV) (d:GroupD),cs=x.list∧GrpN (fun _=>True) W x d∧GrpOk d∧∀v∈d.key,v.s.size≤9223372036854775807:=by
 obtain ⟨_,_,_,_,hl,_,_⟩:=DataW.trod_struct Tryz.underlying79 h
 have hC:Tryz.prog.cellsOf 79=7:=by kernel_rfl
 rw [hC] at hl
 obtain ⟨n0,y0,_,h0⟩:=trod_field Tryz.underlying79 h 0 3 0 1 (by kernel_rfl) (by kernel_rfl)
 obtain ⟨n1,y1,_,h1⟩:=trod_field Tryz.underlying79 h 1 2 1 1 (by kernel_rfl) (by kernel_rfl)
 obtain ⟨n2,y2,_,h2⟩:=trod_field Tryz.underlying79 h 2 34 2 1 (by kernel_rfl) (by kernel_rfl)
 obtain ⟨n3,y3,_,h3⟩:=trod_field Tryz.underlying79 h 3 2 3 1 (by kernel_rfl) (by kernel_rfl)
 obtain ⟨n4,y4,_,h4⟩:=trod_field Tryz.underlying79 h 4 76 4 1 (by kernel_rfl) (by kernel_rfl)
 obtain ⟨n5,y5,_,h5⟩:=trod_field Tryz.underlying79 h 5 77 5 1 (by kernel_rfl) (by kernel_rfl)
 obtain ⟨n6,y6,_,h6⟩:=trod_field Tryz.underlying79 h 6 77 6 1 (by kernel_rfl) (by kernel_rfl)
 clear h
 match cs,hl with
 |[c0,c1,c2,c3,c4,c5,c6],_=>
  simp only [List.drop_succ_cons,List.drop_zero,List.take_succ_cons,List.take_zero] at h0 h1 h2 h3 h4 h5 h6
  obtain ⟨st,e0,_⟩:=DataW.trod_int Tryz.underlying3 h0
  obtain ⟨tm,e1,_⟩:=DataW.trod_int Tryz.underlying2 h1
  obtain ⟨lk,k1,k2⟩:=open_vals Tryz.underlying34 h2
  obtain ⟨n,e3,_,p3⟩:=DataW.trod_int Tryz.underlying2 h3
  obtain ⟨ls,s1,s2⟩:=open_wides Tryz.underlying76 h4
  obtain ⟨lm,m1,m2⟩:=open_nums Tryz.underlying77 h5
  obtain ⟨lx,x1,x2⟩:=open_nums Tryz.underlying77 h6
  simp at e0 e1 e3
  subst e0 e1 e3
  obtain ⟨ka,kc,rfl,_⟩:=SlAt.shape k1
  obtain ⟨sa,sc,rfl,_⟩:=SlAt.shape s1
  obtain ⟨ma,mc,rfl,_⟩:=SlAt.shape m1
  obtain ⟨xa,xc,rfl,_⟩:=SlAt.shape x1
  exact ⟨⟨st,tm,ka,_,kc,n,sa,_,sc,ma,_,mc,xa,_,xc⟩,⟨st,tm,lk,n,ls,lm,lx⟩,rfl,⟨rfl,rfl,slS_all k1,rfl,slS_all s1,slS_all m1,slS_all x1⟩,⟨i64_of_wf p3,s2,m2,x2⟩,k2⟩
theorem open_groups {t:TypeId} (ht:Tryz.prog.underlying t=some (.slice 79)) {v:Value} {fuel:Nat} {x:DataW H×List MemPlace} (h:DataW.trod enc Tryz.prog W 0 (fun _=>true) true fuel t [v]=some x):
  ∃la lc vs gs,v= .slice la gs.length lc∧GrpsN (fun _=>True) W (.slice la gs.length lc) vs gs∧gs.length≤9223372036854775807∧∀d∈gs,GrpOk d∧∀v∈d.key,v.s.size≤9223372036854775807:=by
 obtain ⟨ao,len,cap,rfl,h1,h2,h3,hA⟩:=open_sl 7 ht (by kernel_rfl) (by decide) h
 by_cases h0:0<len
 ·obtain ⟨b,off,rfl,hc⟩:=hA h0
  obtain ⟨l,hl,hR,hcells⟩:=sl_of (W:=W) (n:=7) (len:=len) (f:=fun p:GrpV×GroupD=>p.1.list) (fun _=>rfl) (by decide) (b:=b) (off:=off) (fun p=>GrpN (fun _=>True) W p.1 p.2∧GrpOk p.2∧∀v∈p.2.key,v.s.size≤9223372036854775807) (fun i hi=>by
   obtain ⟨cs,k,y,hl,hcell,ht'⟩:=hc i hi
   obtain ⟨x,d,hv,hR⟩:=group_of ht'
   subst hv
   exact ⟨(x,d),hR,hcell⟩)
  subst hl
  have e2:(l.map (·.1)).flatMap GrpV.list=l.flatMap (fun p=>p.1.list):=by rw [List.flatMap_map]
  refine ⟨some ⟨b,off,none⟩,cap,l.map (·.1),l.map (·.2),by rw [List.length_map],⟨by simp,?_,fun i x d hx hd=> ?_⟩,by rw [List.length_map];unfold maxLen at h2;omega,fun d hd=> ?_⟩
  ·rw [e2,List.length_map]
   exact ⟨flat_len 7 _ (fun _=>rfl) l,_,cap,rfl,h1,h2,(fun h=>by cases h),fun _=>⟨b,off,rfl,trivial,hcells⟩⟩
  ·rw [List.getElem?_map] at hx hd
   obtain ⟨p,hp,rfl⟩:=Option.map_eq_some_iff.1 hx
   rw [hp] at hd
   simp at hd
   subst hd
   exact (hR p (List.mem_of_getElem? hp)).1
  ·obtain ⟨p,hp,rfl⟩:=List.mem_map.1 hd
   exact (hR p hp).2
 ·obtain rfl:len=0:=by omega
  exact ⟨ao,cap,[],[],rfl,⟨rfl,⟨by simp,ao,cap,rfl,h1,h2,h3,fun h=>by simp at h⟩,fun i x d hx=>by simp at hx⟩,by simp,by simp⟩
end
end Go.Proofs.YtejleplhmkmegaaGreatDoor
