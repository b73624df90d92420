/- Texts joined: ValsO, OtY, OuA, OuN, OuO, OtX, LawG. -/
import Derived.Test.YtejleplhmkmegaaGreatDoorOw
import Derived.Test.YtejleplhmkmegaaGreatDoorOd
import Derived.Test.YtejleplhmkmegaaGreatDoorOe
import Derived.Test.YtejleplhmkmegaaGreatDoorO3
import Derived.Test.YtejleplhmkmegaaGreatDoorOt
import Derived.Test.YtejleplhmkmegaaGreatDoorOa
import Derived.SizedLaws
import Derived.Lib.SmallJoins
import Derived.Lib.LaidTab
import Derived.MakeChecks
import Derived.ProofKit
import Derived.LaidMore
import Derived.OpenShut
import Derived.Stop.Joined
import Derived.Stop.LaidErr
import Derived.Stop.LaidTwo
import Derived.LaidHandle
import Derived.Test.YtejleplhmkmegaaGreatDoorRows
import Derived.Test.YtejleplhmkmegaaGreatDoorOo
import Derived.Test.YtejleplhmkmegaaGreatDoorOp
set_option linter.unusedVariables false
set_option linter.unusedSimpArgs false
namespace Go.Proofs.YtejleplhmkmegaaGreatDoor
set_option maxRecDepth 100000
open Go.ChangeShapes Go.WideShapes Go.ChangeAt Go.RowKit
theorem valsL_ne {xs ys:List ValD} (k:Nat) (hx:k<xs.length) (hy:k<ys.length) (h:¬(xs[k].s=ys[k].s∧xs[k].nl=ys[k].nl)):¬xs=ys:=fun e=>h (by subst e;exact ⟨rfl,rfl⟩)
theorem valsL_succ {xs ys:List ValD} (k:Nat) (hx:k<xs.length) (hy:k<ys.length) (ht:xs.take k=ys.take k) (h:xs[k].s=ys[k].s) (h2:xs[k].nl=ys[k].nl):xs.take (k+1)=ys.take (k+1):=by
 have h3:xs[k]=ys[k]:=by
  cases h4:xs[k];cases h5:ys[k]
  rw [h4,h5] at h h2
  simp only [ValD.mk.injEq]
  exact ⟨h,h2⟩
 rw [List.take_succ_eq_append_getElem hx,List.take_succ_eq_append_getElem hy,ht,h3]
set_option maxHeartbeats 4000000 in
theorem refVals_any (va vb:Value) (xs ys:List ValD) (w:World) (ha:ValsSl w va xs) (hb:ValsSl w vb ys):
  Calls Tryz.prog 78 #[va,vb] w fun e w'=>e= .returned (.bool (decide (xs=ys)))∧Below w.heap.size w w':=by
 obtain ⟨ao,cap,rfl,q1,q2,_,hA⟩:=ha.parts
 obtain ⟨bo,cap',rfl,q3,q4,_,hB⟩:=hb.parts
 unfold maxLen at q2 q4
 clear ha hb
 by_cases hlen:xs.length=ys.length
 ·have hl':=hid hlen
  rw [←hlen]
  clear hlen
  by_cases h0:0<xs.length
  ·obtain ⟨a,oa,rfl,hca⟩:=hA h0
   obtain ⟨b,ob,rfl,hcb⟩:=hB (by have:=hl'.out;omega)
   clear hA hB
   have HA:=hid hca;clear hca
   have HB:=hid hcb;clear hcb
   go_enter Tryz.func78,Tryz.ntmps78
   go_wp2
   go_loopw [5] (fun i wr=>∃k:Nat,k≤xs.length∧i= .int .i64 k∧xs.take k=ys.take k∧Below w.heap.size w wr) (fun i _=>xs.length-(intOf i).toNat)
   case atStart=>exact ⟨0,Nat.zero_le _,rfl,rfl,Below.refl _ _⟩
   case round=>
    obtain ⟨k,hk,rfl,htake,hbel⟩:=hrel
    have HT:=hid htake;clear htake
    by_cases hlt:k<xs.length
    ·have hy:k<ys.length:=by have:=hl'.out;omega
     have d1:=cell_step (HA.out k hlt).1 hbel
     have d2:=cell_step (HA.out k hlt).2 hbel
     have d3:=cell_step (HB.out k hy).1 hbel
     have d4:=cell_step (HB.out k hy).2 hbel
     have HS:=hid (valsL_succ k hlt hy HT.out)
     have HN:=hid (valsL_ne k hlt hy)
     generalize xs[k].s=x1 at*
     generalize xs[k].nl=x2 at*
     generalize ys[k].s=y1 at*
     generalize ys[k].nl=y2 at*
     by_cases h1:x1=y1
     ·subst h1
      by_cases h2:x2=y2
      ·subst h2
       have HS':=hid (HS.out rfl rfl)
       go_wp2
       go_quiet (fail)
       go_wp2
       go_roundw
       case rel=>exact ⟨k+1,hlt,by go_num,HS'.out,hbel.drewN _⟩
       case measure=>simp [intOf];omega
      ·have HN':=hid (HN.out (fun e=>h2 e.2))
       have hne:(x2==y2)=false:=by simpa using h2
       have hne2:(x2 !=y2)=true:=by simpa using h2
       clear h2
       go_wp2
       go_quiet (fail)
       go_wp2
       go_ret
       exact ⟨ret_bool (by simp [HN'.out]),hbel.drewN _⟩
     ·have HN':=hid (HN.out (fun e=>h1 e.1))
      have h1':¬x1.data=y1.data:=fun e=>h1 (ByteArray.ext e)
      have hne:(x1.toList==y1.toList)=false:=by simpa [ByteArray.toList_eq] using h1'
      have hne2:(x1.toList !=y1.toList)=true:=by simpa [ByteArray.toList_eq] using h1'
      clear h1 h1'
      go_wp2
      go_quiet (fail)
      go_wp2
      go_ret
      exact ⟨ret_bool (by simp [HN'.out]),hbel.drewN _⟩
    ·obtain rfl:k=xs.length:=by omega
     go_wp2
     go_ret
     refine ⟨ret_bool ?_,hbel⟩
     have h1:=HT.out
     rw [List.take_length,hl'.out,List.take_length] at h1
     simp [h1]
  ·have h1:xs=[]:=List.length_eq_zero_iff.1 (by omega)
   have h2:ys=[]:=List.length_eq_zero_iff.1 (by have:=hl'.out;omega)
   subst h1;subst h2
   clear hA hB h0
   go_enter Tryz.func78,Tryz.ntmps78
   go_wp2
   refine wp_loop_rounds 1 ?_
   rw [rounds_succ]
   go_wp2
   go_ret
   exact ⟨rfl,Below.refl _ _⟩
 ·have hne:¬xs=ys:=fun h=>hlen (by rw [h])
  have hlen':((xs.length:Int) !=(ys.length:Int))=true:=by simpa using (fun h=>hlen (by exact_mod_cast h))
  have hlen'':((xs.length:Int)==(ys.length:Int))=false:=by simpa using (fun h=>hlen (by exact_mod_cast h))
  have HN:=hid hne;clear hne hA hB
  go_enter Tryz.func78,Tryz.ntmps78
  go_wp2
  go_ret
  exact ⟨ret_bool (by simp [HN.out]),Below.refl _ _⟩
open Go.Fl
theorem told_ltI {ds ms:List ByteArray} {g:Int} {q:QryD} {gs:List GroupD} {base:Nat} {w:World} {v:Value} {T:List El} (h:LinesAt ds ms g q gs base w v T):(T.map (·.i)).Pairwise (ltI ds ms g q gs):=by
 rw [List.pairwise_map]
 refine List.Pairwise.imp_of_mem ?_ h.sorted
 intro x y hx hy hxy
 obtain ⟨a,ha,_,_,hl⟩:=h.td x hx
 obtain ⟨b,hb,_,_,hm⟩:=h.td y hy
 refine ⟨a,b,ha,hb,?_⟩
 rw [←hl,←hm]
 exact hxy
theorem ltI_asym {ds ms:List ByteArray} {g:Int} {q:QryD} {L:List (Nat×FilD)} {gs:List GroupD} (he:linesErr ds ms g q L gs=0) (i j:Nat) (h1:ltI ds ms g q gs i j) (h2:ltI ds ms g q gs j i):False:=by
 obtain ⟨a,b,ha,hb,h⟩:=h1
 obtain ⟨b',a',hb',ha',h'⟩:=h2
 rw [hb] at hb'
 rw [ha] at ha'
 obtain rfl:=Option.some.inj hb'
 obtain rfl:=Option.some.inj ha'
 have fa:=line_form (linesErr_all he a (List.mem_of_getElem? ha))
 have fb:=line_form (linesErr_all he b (List.mem_of_getElem? hb))
 have:=(cmpK_good q.order q.by_.length (q.aggs.map aggFl)).anti _ _ fa fb
 omega
theorem number_self (v:NumD) (ok:NumOk v) (w:World):Calls Tryz.prog 149 #[.agg #[.bool v.fl,.int .i64 v.n,.float .f64 v.f],.agg #[.bool v.fl,.int .i64 v.n,.float .f64 v.f]] w fun e w'=>e= .returned (.bool true)∧Below w.heap.size w w':=by
 have S:=hid (fun W=>self_same v.f ok.2 W)
 generalize v.fl=a at*;generalize v.n=b at*;generalize v.f=c at*
 clear ok
 go_enter Tryz.func149,Tryz.ntmps149
 go_wp2_with (go_at_call 199;go_loud ((with_reducible refine (S.out _).mono ?_);rintro e w1 ⟨rfl,rfl⟩))
 go_ret
 exact ⟨rfl,Gr⟩
set_option maxHeartbeats 4000000 in
theorem numbers_self (va vb:Value) (l:List NumD) (w:World) (ha:NumsSl w va l) (hb:NumsSl w vb l) (ok:∀v∈l,NumOk v) (hl:l.length≤1000000):
  Calls Tryz.prog 79 #[va,vb] w fun e w'=>e= .returned (.bool true)∧Below w.heap.size w w':=by
 obtain ⟨h0,ao,ac,rfl,a1,a2,_,hA⟩:=ha
 obtain ⟨_,bo,bc,rfl,b1,b2,_,hB⟩:=hb
 have HA:=hid hA;have HB:=hid hB;have HOK:=hid ok
 obtain ⟨N,hN⟩:∃N,l.length=N:=⟨_,rfl⟩
 have HN:=hid (And.intro hN h0)
 rw [hN] at hl a1 b1 ⊢
 clear hA hB ok hN h0
 go_enter Tryz.func79,Tryz.ntmps79
 go_wp2
 go_loopw [5] (fun iv wr=>∃k:Nat,k≤N∧iv= .int .i64 (k:Int)∧Below w.heap.size w wr) (fun iv _=>N-(intOf iv).toNat)
 case atStart=>exact ⟨0,Nat.zero_le _,rfl,Below.refl _ _⟩
 case round=>
  obtain ⟨k,hk,rfl,hbr⟩:=hrel
  have HBR:=hid hbr
  by_cases hkN:k<N
  ·have d1:decide (k<N)=true:=by simpa using hkN
   have hlen:k<l.length:=by rw [HN.out.1];exact hkN
   have hpos:0<(l.flatMap NumD.cells).length:=by rw [HN.out.2];omega
   obtain ⟨b,off,rfl,hc⟩:=HA.out hpos
   obtain ⟨b',off',rfl,hc'⟩:=HB.out hpos
   have e0:w.cell? ⟨b,off+k*3,none⟩=some (.bool l[k].fl):=hc _ _ ((flat_at 3 NumD.cells NumD.cells_len l k 0 (by decide) hlen).trans rfl)
   have e1:w.cell? ⟨b,off+k*3+1,none⟩=some (.int .i64 l[k].n):=hc _ _ ((flat_at 3 NumD.cells NumD.cells_len l k 1 (by decide) hlen).trans rfl)
   have e2:w.cell? ⟨b,off+k*3+2,none⟩=some (.float .f64 l[k].f):=hc _ _ ((flat_at 3 NumD.cells NumD.cells_len l k 2 (by decide) hlen).trans rfl)
   have f0:w.cell? ⟨b',off'+k*3,none⟩=some (.bool l[k].fl):=hc' _ _ ((flat_at 3 NumD.cells NumD.cells_len l k 0 (by decide) hlen).trans rfl)
   have f1:w.cell? ⟨b',off'+k*3+1,none⟩=some (.int .i64 l[k].n):=hc' _ _ ((flat_at 3 NumD.cells NumD.cells_len l k 1 (by decide) hlen).trans rfl)
   have f2:w.cell? ⟨b',off'+k*3+2,none⟩=some (.float .f64 l[k].f):=hc' _ _ ((flat_at 3 NumD.cells NumD.cells_len l k 2 (by decide) hlen).trans rfl)
   have NS:=hid (fun W=>number_self l[k] (HOK.out _ (List.getElem_mem hlen)) W)
   generalize l[k].fl=x0 at*;generalize l[k].n=x1 at*;generalize l[k].f=x2 at*
   have p0:=World.plus_cell (cell_step e0 hbr);have p1:=World.plus_cell (cell_step e1 hbr);have p2:=World.plus_cell (cell_step e2 hbr)
   have p3:=World.plus_cell (cell_step f0 hbr);have p4:=World.plus_cell (cell_step f1 hbr);have p5:=World.plus_cell (cell_step f2 hbr)
   have q1:(0:Int)≤(k:Int):=by omega
   have q2:(k:Int)<(N:Int):=by omega
   clear hc hc' e0 e1 e2 f0 f1 f2 hbr hpos
   go_wp2
   refine wp_region_plus (by kernel_rfl) (by kernel_rfl) ?_
   repeat (first|go_big_quiet_skip|(go_big_quiet_want;go_big_quiet_op;first|go_big_quiet_on|go_big_quiet_call (((go_at_call 149;exact Calls.plus_of (NS.out _))))))
   refine wpQuiet_nil ?_
   rintro _ ⟨xq,rfl⟩
   have HP:=hid (HBR.out.step (World.plus_below wr xq))
   clear p0 p1 p2 p3 p4 p5
   generalize World.plus wr xq=Y at*
   go_wp2
   go_roundw
   case rel=>exact ⟨k+1,hkN,by go_num,HP.out⟩
   case measure=>simp [intOf];omega
  ·have d1:decide (k<N)=false:=by simpa using hkN
   clear hbr
   go_wp2
   go_ret
   exact ⟨rfl,HBR.out⟩
set_option maxHeartbeats 4000000 in
theorem one_self (a b:LnV) (l:LineD) (w:World) (ha:LnIs w a l) (hb:LnIs w b l) (hs:a.st=b.st) (ht:a.tm=b.tm) (hl:l.nums.length≤1000000):
  Calls Tryz.prog 37 #[.agg a.cells,.agg b.cells] w fun e w'=>e= .returned (.bool true)∧Below w.heap.size w w':=by
 have RV:=hid (fun W (h:Below w.heap.size w W)=>refVals_any _ _ l.key l.key W (ha.below h).key (hb.below h).key)
 rw [show decide (l.key=l.key)=true by simp] at RV
 have RN:=hid (fun W (h:Below w.heap.size w W)=>numbers_self _ _ l.nums W (ha.below h).nums (hb.below h).nums ha.ok hl)
 clear ha hb
 obtain ⟨ast,atm,aka,akn,akc,ana,ann,anc⟩:=a
 obtain ⟨bst,btm,bka,bkn,bkc,bna,bnn,bnc⟩:=b
 dsimp only [LnV.cells] at*
 subst hs ht
 go_enter Tryz.func37,Tryz.ntmps37
 go_wp2_with (first
  |(go_at_call 78;go_loud ((with_reducible refine (RV.out _ Gr).mono ?_);rintro e w1 ⟨rfl,hb1⟩;obtain ⟨hc1,hf1,hk1,hz1⟩:=bcell3 hb1;(try simp only [World.size_alloc,World.size_drew] at hz1);have:w.heap.size<w1.heap.size:=(by omega);have:w.heap.size+1<w1.heap.size:=(by omega)))
  |(go_at_call 79;go_loud ((with_reducible refine (RN.out _ Gr).mono ?_);rintro e w2 ⟨rfl,hb2⟩)))
 go_ret
 exact ⟨rfl,Gr⟩
set_option maxHeartbeats 8000000 in
theorem same_self {S1 S2:Nat→Prop} (T1 T2:List El) (K:Nat) (va vb:Value) (w:World) (h1:SlS S1 w va K 4 (elCells (T1.take K))) (h2:SlS S2 w vb K 4 (elCells (T2.take K))) (k1:K≤T1.length) (k2:K≤T2.length)
  (he:∀(i:Nat) (x y:El),T1[i]? =some x→T2[i]? =some y→x.v.st=y.v.st∧x.v.tm=y.v.tm∧x.l=y.l) (l1:∀x∈T1,LnIs w x.v x.l∧x.l.nums.length≤1000000) (l2:∀y∈T2,LnIs w y.v y.l) (hK:K≤1000000):
  Calls Tryz.prog 17 #[va,vb] w fun e w'=>e= .returned (.bool true)∧Below w.heap.size w w':=by
 have H1:=hid h1;have H2:=hid h2;have HE:=hid he;have HL1:=hid l1;have HL2:=hid l2;have HK1:=hid k1;have HK2:=hid k2
 obtain ⟨a0,ac,rfl,a1,a2,_⟩:=SlAt.shape h1.sl
 obtain ⟨b0,bc,rfl,b1,b2,_⟩:=SlAt.shape h2.sl
 clear h1 h2 he l1 l2 k1 k2
 go_enter Tryz.func17,Tryz.ntmps17
 go_wp2
 go_loopw [5] (fun iv wr=>∃k:Nat,k≤K∧iv= .int .i64 (k:Int)∧Below w.heap.size w wr) (fun iv _=>K-(intOf iv).toNat)
 case atStart=>exact ⟨0,Nat.zero_le _,rfl,Below.refl _ _⟩
 case round=>
  obtain ⟨k,hk,rfl,hbr⟩:=hrel
  have HBR:=hid hbr
  by_cases hkK:k<K
  ·have d1:decide (k<K)=true:=by simpa using hkK
   obtain ⟨b,off,cap,x,hv,hx,c0,c1,c2,c3⟩:=ln_at H1.out HK1.out hkK
   obtain ⟨b',off',cap',y,hv',hy,e0,e1,e2,e3⟩:=ln_at H2.out HK2.out hkK
   simp only [Value.slice.injEq] at hv hv'
   obtain ⟨rfl,_,_⟩:=hv
   obtain ⟨rfl,_,_⟩:=hv'
   obtain ⟨s1,s2,s3⟩:=HE.out k x y hx hy
   have hlx:=HL1.out x (List.mem_of_getElem? hx)
   have hly:=HL2.out y (List.mem_of_getElem? hy)
   rw [←s3] at hly
   have ON:=hid (fun W (h:Below wr.heap.size wr W)=>one_self x.v y.v x.l W (hlx.1.below (HBR.out.step h)) (hly.below (HBR.out.step h)) s1 s2 hlx.2)
   unfold LnV.cells at ON
   have p0:=World.plus_cell (cell_step c0 hbr);have p1:=World.plus_cell (cell_step c1 hbr);have p2:=World.plus_cell (cell_step c2 hbr);have p3:=World.plus_cell (cell_step c3 hbr)
   have p4:=World.plus_cell (cell_step e0 hbr);have p5:=World.plus_cell (cell_step e1 hbr);have p6:=World.plus_cell (cell_step e2 hbr);have p7:=World.plus_cell (cell_step e3 hbr)
   have q1:(0:Int)≤(k:Int):=by omega
   have q2:(k:Int)<(K:Int):=by omega
   clear c0 c1 c2 c3 e0 e1 e2 e3 hbr hx hy s1 s2 s3 hlx hly
   go_wp2
   refine wp_region_plus (by kernel_rfl) (by kernel_rfl) ?_
   repeat (first|go_big_quiet_skip|(go_big_quiet_want;go_big_quiet_op;first|go_big_quiet_on|go_big_quiet_call (((go_at_call 37;exact Calls.plus_of (ON.out _ (World.plus_below _ _)))))))
   refine wpQuiet_nil ?_
   rintro _ ⟨xq,rfl⟩
   have HP:=hid (HBR.out.step (World.plus_below wr xq))
   clear p0 p1 p2 p3 p4 p5 p6 p7
   generalize World.plus wr xq=Y at*
   go_wp2
   go_roundw
   case rel=>exact ⟨k+1,hkK,by go_num,HP.out⟩
   case measure=>simp [intOf];omega
  ·have d1:decide (k<K)=false:=by simpa using hkK
   clear hbr
   go_wp2
   go_ret
   exact ⟨rfl,HBR.out⟩
theorem count_few (f:FilD):countN 8 (fewF f)≤1000000000000:=by
 unfold fewF
 split
 ·cases cutF 7 f with
  |mk k n ws fr till l=>simp [Go.Proofs.YtejleplhmkmegaaGreatDoor.noL,countN]
 ·omega
theorem refLines_any (S:Nat→Prop) (D:Nat) (q:QryV) (dq:QryD) (vd vm:Value) (la:Option Addr) (lc:Nat) (vs:List GrpV) (gs:List GroupD) (ds ms:List ByteArray) (g:Int) (w:World) (hd:StrsSl w vd ds) (hm:StrsSl w vm ms) (td:Texts ds) (tm:Texts ms)
  (hgs:GrpsN (fun _=>True) w (.slice la gs.length lc) vs gs) (gok:GrpsOk gs) (gks:∀d∈gs,∀v∈d.key,v.s.size≤9223372036854775807) (hq:QryIs w q dq) (qok:QOk D dq)
  (hf:FilS S w D [.int .i64 q.kind,.string q.name,.slice q.wa q.wn q.wc,.int .i64 q.fr,.int .i64 q.till,.slice q.la q.ln q.lc] dq.wher) (hcn:countN D dq.wher≤1000000000000):
  Calls Tryz.prog 16 #[.agg #[vd,vm,.int .i64 g],.agg q.cells,.slice la gs.length lc] w (RLinesPost ds ms g dq (flatN D 1 dq.wher) gs w):=by
 have HC:=fun W (h:Below w.heap.size w W)=>refCheck15_any S D q dq vd vm ds ms g W (hd.below h) (hm.below h) td tm (hq.all.below h).is qok.sm (hf.below h) qok.fil.1 hcn
 by_cases h0:checkQ ds ms g dq (flatN D 1 dq.wher)=0
 ·refine refLines_go q dq _ vd vm la lc vs gs ds ms g w hd hm hgs (fun d hd=>⟨gok.key d hd,gks d hd⟩) gok.ok gok.len hq qok.sm qok.conds (isOfB_parts (checkQ_typed h0)).2.2.1 HC h0 (fun W x d hb hdm hx=> ?_)
  exact refNums_any S D x d q dq vd vm ds ms g W (hd.below hb) (hm.below hb) td tm hx (gok.ok d hdm) (gok.sm d hdm) (hq.all.below hb).is qok.sm (hf.below hb) qok.fil.1 hcn
 ·exact refLines_early q dq _ vd vm _ ds ms g gs w hd hm HC h0
theorem rlines_of {K S:Nat→Prop} {X:World} {vd vm:Value} {ds ms:List ByteArray} {q:QryV} {dq:QryD} {ao:Option Addr} {cap:Nat} {vs:List GrpV} {gs:List GroupD} {M:Nat} (g:Int) (h:LawIn K X vd vm ds ms q dq) (td:Texts ds) (tm:Texts ms) (hM:gs.length=M) (hgs:GrpsN S X (.slice ao M cap) vs gs) (gok:GrpsOk gs) (gks:∀d∈gs,∀v∈d.key,v.s.size≤9223372036854775807) (qok:QOk 8 dq) (hdep:DepN 8 dq.wher) (hcn:countN 8 dq.wher≤1000000000000):
  Calls Tryz.prog 16 #[.agg #[vd,vm,.int .i64 g],.agg q.cells,.slice ao M cap] X (RLinesPost ds ms g dq (flatN 8 1 dq.wher) gs X):=by
 subst hM
 obtain ⟨D,hD⟩:=h.nq.wher
 exact refLines_any K 8 q dq vd vm ao cap vs gs ds ms g X h.hd.sl h.hm.sl td tm (hgs.keep (fun _ _=>trivial) (fun _ _ _=>rfl)) gok gks h.nq.is qok (hD.at_depth 8 D hdep) hcn
theorem rtold_eq {ds ms:List ByteArray} {g:Int} {q:QryD} {L:List (Nat×FilD)} {gs:List GroupD} {b1 b2:Nat} {w1 w2:World} {v1 v2:Value} {T1 T2:List El} (he:linesErr ds ms g q L gs=0) (h1:LinesAt ds ms g q gs b1 w1 v1 T1) (h2:RLinesAt ds ms g q gs b2 w2 v2 T2):
  T1.map (·.i)=T2.map (·.i)∧∀(i:Nat) (x y:El),T1[i]? =some x→T2[i]? =some y→x.v.st=y.v.st∧x.v.tm=y.v.tm∧x.l=y.l:=by
 have hl2:(T2.map (·.i)).Pairwise (ltI ds ms g q gs):=by
  rw [List.pairwise_map]
  refine h2.sorted.imp_of_mem ?_
  intro x y hx hy hxy
  obtain ⟨a,ha,_,_,hl⟩:=h2.td x hx
  obtain ⟨b,hb,_,_,hm⟩:=h2.td y hy
  refine ⟨a,b,ha,hb,?_⟩
  rw [←hl,←hm]
  exact hxy
 have e:T1.map (·.i)=T2.map (·.i):=sorted_one (h1.perm.trans h2.perm.symm) (fun i _ j _=>ltI_asym he i j) (told_ltI h1) hl2
 refine ⟨e,fun i x y hx hy=> ?_⟩
 have ei:x.i=y.i:=by
  have:=congrArg (fun l=>l[i]?) e
  simp only [List.getElem?_map,hx,hy,Option.map_some,Option.some.injEq] at this
  exact this
 obtain ⟨a,ha,s1,t1,l1⟩:=h1.td x (List.mem_of_getElem? hx)
 obtain ⟨b,hb,s2,t2,l2⟩:=h2.td y (List.mem_of_getElem? hy)
 rw [ei,hb] at ha
 obtain rfl:=Option.some.inj ha
 exact ⟨s1.trans s2.symm,t1.trans t2.symm,l1.trans l2.symm⟩
theorem few_keys (gs:List GroupD):∀d∈fewGs gs,∀v∈d.key,v.s.size≤9223372036854775807:=by
 intro d hd v hv
 unfold fewGs at hd
 obtain ⟨x,hx,rfl⟩:=List.mem_map.1 hd
 obtain ⟨u,hu,rfl⟩:=List.mem_map.1 (show v∈(x.key.take 10).map valCut from hv)
 have:=cutS_size 110 u.s
 show (cutS 110 u.s).size≤_
 omega
theorem sls_nil (S:Nat→Prop) (w:World):SlS S w (.slice none 0 0) 0 4 (elCells (([]:List El).take 0)):=⟨rfl,none,0,rfl,Nat.le_refl _,by unfold maxLen;omega,fun _=>rfl,fun h=>by simp [elCells] at h⟩
set_option maxHeartbeats 16000000 in
theorem OrderLines_core (q:QryV) (dq:QryD) (vd vm:Value) (ds ms:List ByteArray) (g:Int) (la:Option Addr) (lc:Nat) (vs:List GrpV) (gs:List GroupD) (w:World) (am an:Addr) (hd:StrsSl w vd ds) (hm:StrsSl w vm ms) (td:∀s∈ds,s.size≤9223372036854775807) (tm:∀s∈ms,s.size≤9223372036854775807) (hq:QryIs w q dq) (ok:QryOk dq) (hk:∀e,KindsN e dq.wher)
  (hgs:GrpsN (fun _=>True) w (.slice la gs.length lc) vs gs) (hgl:gs.length≤9223372036854775807) (hgo:∀d∈gs,GrpOk d∧∀v∈d.key,v.s.size≤9223372036854775807) (hTab:Tabs w) (hS:SentF am an w) (hT:TypeR w):
  Calls Tryz.prog 4 #[.agg #[vd,vm,.int .i64 g],.agg q.cells,.slice la gs.length lc] w fun e w'=>e= .returned (.bool true)∧Below w.heap.size w w':=by
 have GKS:=hid (few_keys gs)
 have HTab:=hid hTab;have HSE:=hid hS;have HTY:=hid hT
 have SH:=hid (fun W (h:Below w.heap.size w W)=>shown18_any W (HTab.out.below h (Nat.le_refl _)))
 obtain ⟨ad,cd,rfl,_,_,_⟩:=SlAt.shape hd
 obtain ⟨am',cm,rfl,_,_,_⟩:=SlAt.shape hm
 have CUT:=hid (fun W (h:Below w.heap.size w W)=>schCut_any _ _ ds ms g W (hd.below h) (hm.below h) td tm)
 have F15:=hid (fun W (h:QryN (Far 2 w) W q dq)=>few15_any _ q dq W h ok)
 have QOK:=hid (fewQ_ok ok hk)
 have GOK:=hid (fewGs_ok (fun d hd=>(hgo d hd).1))
 have GRP:=hid (fun W (hb:Below w.heap.size w W)=>groups_any (fun _=>True) la lc vs gs W (hgs.below hb) (fun d hd=>(hgo d hd).2) hgl)
 obtain ⟨NG,hNG⟩:∃NG,gs.length=NG:=⟨_,rfl⟩
 obtain ⟨NF,hNF⟩:∃NF,(fewGs gs).length=NF:=⟨_,rfl⟩
 rw [hNG,hNF] at GRP
 rw [hNG]
 have HNF:=hid hNF
 unfold GroupsPost at GRP
 have TD:=hid (txt_ok td);have TM:=hid (txt_ok tm)
 obtain ⟨ds',hds⟩:∃ds',txtCut 30 10 ds=ds':=⟨_,rfl⟩
 obtain ⟨ms',hms⟩:∃ms',txtCut 30 10 ms=ms':=⟨_,rfl⟩
 rw [hds] at CUT TD
 rw [hms] at CUT TM
 have H0:=hid (show ∀X,X=((w.alloc (.cells #[.slice ad ds.length cd,.slice am' ms.length cm,.int .i64 g] 45)).alloc (.cells q.cells 33))→LSt w X #[.slice ad ds.length cd,.slice am' ms.length cm,.int .i64 g] q∧QryN (Far 2 w) X q dq from fun X hX=>by
  subst hX
  have hB:Below w.heap.size w ((w.alloc (.cells #[.slice ad ds.length cd,.slice am' ms.length cm,.int .i64 g] 45)).alloc (.cells q.cells 33)):=Gr
  exact ⟨⟨Bk,Bk,hB⟩,hq.all.keep (fun b h=> .inl h) (fun b h _=>hB.block b h)⟩)
 clear hTab hS hT hd hm td tm hq ok hk hgs hgl hgo hNG hNF hds hms
 go_enter Tryz.func4,Tryz.ntmps4
 go_upto_region 4 with (first
  |(go_at_call 8;go_loud ((with_reducible refine (SH.out _ (H0.out _ rfl).1.bel).mono ?_);rintro e x1 ⟨rfl,hb1⟩;have s1:=hid ((H0.out _ rfl).1.step hb1);have n1:=hid ((H0.out _ rfl).2.below hb1);clear hb1))
  |(refine wpList_load_row rfl _ _ rfl _ rfl _ _ _ _ s1.out.bs Tryz.underlying45 rfl (by exact sinfo3) ?_)
  |(go_at_call 13;go_loud ((with_reducible refine (CUT.out _ s1.out.bel).mono ?_);rintro e x2 ⟨v1,v2,rfl,ho1,ho2,hb2⟩;obtain ⟨a1,c1,rfl,_⟩:=SlAt.shape (SlAt.own ho1);obtain ⟨a2,c2,rfl,_⟩:=SlAt.shape (SlAt.own ho2);have s2:=hid (s1.out.step hb2);have n2:=hid (n1.out.below hb2);have d2:=hid (And.intro ((SlS.own ho1).keep (T:=Far 2 w) (fun b hb=> .inr (by have:=(ho1.lt b hb).1;have:=s1.out.size;omega)) (fun _ _ _=>rfl)) ((SlS.own ho2).keep (T:=Far 2 w) (fun b hb=> .inr (by have:=(ho2.lt b hb).1;have:=s1.out.size;omega)) (fun _ _ _=>rfl)));clear ho1 ho2 hb2))
  |(refine wpList_store_blk rfl _ _ _ rfl _ _ rfl rfl _ _ s2.out.bs (by exact sinfo3) (by rfl) (by simp [Value.oneCell']) ?_;intro x3 hh3 hg3 hz3;have s3:=hid (s2.out.putS hg3 hh3);have n3:=hid (n2.out.keep (fun _ h=>h) (far_kept hg3 ⟨Nat.le_refl _,by omega⟩));have d3:=hid (And.intro (d2.out.1.keep (fun _ h=>h) (far_kept hg3 ⟨Nat.le_refl _,by omega⟩)) (d2.out.2.keep (fun _ h=>h) (far_kept hg3 ⟨Nat.le_refl _,by omega⟩)));clear hh3 hg3 hz3)
  |(refine wpList_load_row rfl _ _ rfl _ rfl _ _ _ _ s3.out.bq Tryz.underlying33 rfl (qinfo _) ?_)
  |(go_at_call 9;go_loud ((with_reducible refine (F15.out _ n3.out).mono ?_);rintro e x4 ⟨q1,rfl,hn,hb4⟩;have s4:=hid (s3.out.step hb4);have n4:=hid (hn.keep (T:=Far 2 w) (fun b h=>by rcases h with h|h;exact h.1;exact .inr (by have:=s3.out.size;omega)) (fun _ _ _=>rfl));have d4:=hid (And.intro (d3.out.1.keep (fun _ h=>h) (fun b _ hl=>hb4.block b hl)) (d3.out.2.keep (fun _ h=>h) (fun b _ hl=>hb4.block b hl)));clear hn hb4))
  |(refine wpList_store_blk rfl _ _ _ rfl _ _ rfl rfl _ _ s4.out.bq (qinfo _) rfl (qcells_one _) ?_;intro x5 hh3 hg3 hz3;have s5:=hid (s4.out.putQ hg3 hh3);have IN:=hid (show LawIn (Far 2 w) x5 (.slice a1 ds'.length c1) (.slice a2 ms'.length c2) ds' ms' q1 (fewQ dq) from ⟨d4.out.1.keep (fun _ h=>h) (far_kept hg3 ⟨by omega,by omega⟩),d4.out.2.keep (fun _ h=>h) (far_kept hg3 ⟨by omega,by omega⟩),n4.out.keep (fun _ h=>h) (far_kept hg3 ⟨by omega,by omega⟩)⟩);clear hh3 hg3 hz3))
 have QF:=hid (fun (S:Nat→Prop) y (hb:Below x5.heap.size x5 y) ao cap vs' (hg:GrpsN S y (.slice ao NF cap) vs' (fewGs gs))=>lines_of g (IN.out.below hb) TD.out TM.out HNF.out hg GOK.out QOK.out (dep_few _) (HSE.out.below (s5.out.bel.step hb)) (HTY.out.below (s5.out.bel.step hb)))
 have RF:=hid (fun (S:Nat→Prop) y (hb:Below x5.heap.size x5 y) ao cap vs' (hg:GrpsN S y (.slice ao NF cap) vs' (fewGs gs))=>rlines_of g (IN.out.below hb) TD.out TM.out HNF.out hg GOK.out GKS.out QOK.out (dep_few _) (count_few _))
 have GR:=hid (fun W (hb:Below x5.heap.size x5 W)=>GRP.out W (s5.out.bel.step hb))
 go_upto_region 5 with (go_at_call 14;go_loud ((with_reducible refine (GR.out _ Gr).mono ?_);rintro e y6 ⟨ao6,cap6,vs6,rfl,hg6,hb6⟩;have HB6:=hid (show Below x5.heap.size x5 y6 from Gr);have HG6:=hid hg6;clear hb6 hg6))
 have sy6:=hid (s5.out.step HB6.out)
 have CL7:=hid (QF.out _ y6 HB6.out _ _ _ HG6.out)
 go_upto_region 6 with (first
  |(refine wpList_load_row rfl _ _ rfl _ rfl _ _ _ _ sy6.out.bs Tryz.underlying45 rfl (by exact sinfo3) ?_)
  |(refine wpList_load_row rfl _ _ rfl _ rfl _ _ _ _ sy6.out.bq Tryz.underlying33 rfl (qinfo _) ?_)
  |(go_at_call 15;go_loud ((with_reducible refine (CL7.out).mono ?_);rintro e z7 ⟨v7,rfl,hb7,h7⟩;have HZ7:=hid hb7;have sz7:=hid (sy6.out.step hb7);have R7:=hid h7;clear hb7 h7)))
 have HX7:=hid (HB6.out.trans (HZ7.out.mono HB6.out.size))
 have CL8:=hid (RF.out _ z7 HX7.out _ _ _ (HG6.out.below HZ7.out))
 go_upto_region 7 with (first
  |(refine wpList_load_row rfl _ _ rfl _ rfl _ _ _ _ sz7.out.bs Tryz.underlying45 rfl (by exact sinfo3) ?_)
  |(refine wpList_load_row rfl _ _ rfl _ rfl _ _ _ _ sz7.out.bq Tryz.underlying33 rfl (qinfo _) ?_)
  |(go_at_call 16;go_loud ((with_reducible refine (CL8.out).mono ?_);rintro e z8 ⟨v8,rfl,hb8,h8⟩;have HZ8:=hid hb8;have sz8:=hid (sz7.out.step hb8);have R8:=hid h8;clear hb8 h8)))
 obtain ⟨er,her⟩:∃er,linesRes ds' ms' g (fewQ dq) (flatN 8 1 (fewQ dq).wher) (fewGs gs)=er:=⟨_,rfl⟩
 rw [her] at R7 R8 ⊢
 have hwy:=HB6.out.size
 have hyz:=HZ7.out.size
 have hzz:=HZ8.out.size
 rcases R7.out with ⟨hne,rfl⟩|⟨h0,T1,hT1⟩
 ·rcases R8.out with ⟨_,rfl⟩|⟨h0,_⟩
  ·have SM:=hid (fun W (hb:Below z8.heap.size z8 W)=>same_self (S1:=fun _=>True) (S2:=fun _=>True) [] [] 0 (.slice none 0 0) (.slice none 0 0) W (sls_nil _ _) (sls_nil _ _) (Nat.le_refl _) (Nat.le_refl _) (fun i x y hx _=>by simp at hx) (fun x hx=>by cases hx) (fun x hx=>by cases hx) (by omega))
   clear her R7 R8
   go_wp2_with (go_at_call 17;go_loud ((with_reducible refine (SM.out _ Gr).mono ?_);rintro e zz ⟨rfl,hbz⟩;have HBZ:=hid hbz))
   go_ret
   exact ⟨by simp,sz8.out.bel.step Gr⟩
  ·exact absurd h0 hne
 ·rcases R8.out with ⟨hne,_⟩|⟨_,T2,hT2⟩
  ·exact absurd h0 hne
  subst h0
  obtain ⟨hck,hle⟩:=res_zero her
  obtain ⟨hpl,hEQ⟩:=rtold_eq hle hT1 hT2
  have hlen:T1.length=T2.length:=by have:=congrArg List.length hpl;simpa using this
  have hat1:=hT1.at_
  have hat2:=hT2.at_
  rw [←hlen] at hat2
  obtain ⟨K,hK⟩:∃K,limN (fewQ dq).limit T1.length=K:=⟨_,rfl⟩
  rw [hK] at hat1 hat2
  have hKT:K≤T1.length:=by rw [←hK];unfold limN;split<;>omega
  obtain ⟨a7,c7,rfl,b1,b2,_⟩:=SlAt.shape hat1.sl
  obtain ⟨a9,c9,rfl,b3,b4,_⟩:=SlAt.shape hat2.sl
  have hn1000:T1.length≤1000:=by
   have h1:=hT1.perm.length_eq
   have h2:=keptI_len ds' ms' g (fewQ dq) (fewGs gs)
   rw [List.length_map] at h1
   have:=GOK.out.len
   omega
  have KP:Hid (∀W,Below z8.heap.size z8 W→∀b,y6.heap.size≤b→b<z7.heap.size→W.heap[b]? =z7.heap[b]?):=fun W hW b h1 h2=>by
   have e2:=HZ8.out.block b h2
   have e3:=hW.block b (by omega)
   rw [e3,e2]
  have SM:=hid (fun W (hb:Below z8.heap.size z8 W)=>same_self T1 T2 K (.slice a7 K c7) (.slice a9 K c9) W (hat1.keep (fun _ h=>h) (KP.out W hb)) (hat2.keep (fun _ h=>h) (fun b _ hlt=>hb.block b hlt)) hKT (by omega) hEQ (fun x hx=>⟨((hT1.el x hx).keep (fun _ h=>h) (KP.out W hb)).is,by
    obtain ⟨d,_,_,_,hll⟩:=hT1.td x hx
    have h1:=line_len ds' ms' g (fewQ dq) d
    have h2:=QOK.out.sm.aggs
    rw [hll]
    omega⟩) (fun y hy=>(hT2.el y hy).below hb) (by omega))
  clear hT1 hT2 hck hle hpl hEQ hlen hat1 hat2 hK hKT her R7 R8 KP
  go_wp2_with (go_at_call 17;go_loud ((with_reducible refine (SM.out _ Gr).mono ?_);rintro e zz ⟨rfl,hbz⟩;have HBZ:=hid hbz))
  go_ret
  exact ⟨rfl,sz8.out.bel.step Gr⟩
open Go.Joins Go.Deep
section
variable {H:Type} {enc:TypeId×Value→H} {W:World} {base:Nat}
theorem open_grpsT {t:TypeId} (ht:Tryz.prog.underlying t=some (.slice 79)) {v:Value} {d:DataW H} {p:List MemPlace} (hv:Value.okWide Tryz.prog W .any base t v) (h:DataW.Trod enc Tryz.prog W 0 (fun _=>true) true t v d p):
  ∃la lc vs gs,v= .slice la gs.length lc∧GrpsN (fun _=>True) W (.slice la gs.length lc) vs gs∧gs.length≤9223372036854775807∧∀d∈gs,GrpOk d∧∀v∈d.key,v.s.size≤9223372036854775807:=by
 obtain ⟨a0,len,cap,rfl⟩:=okWide_slice ht hv
 obtain ⟨fuel,hf⟩:=h
 exact open_groups ht hf
end
theorem ownK:ownKnob Tryz.prog.godebug=none:=by kernel_rfl
theorem laidOutK:laidOutB Tryz.prog=true:=by kernel_rfl
theorem trodAll_stays {H:Type} {enc:TypeId×Value→H} {P:Program} {W W':World} (hl:laidOutB P=true) (sp:Nat→Bool):∀(ts:List TypeId) (vs:List Value) (ds:List (DataW H)) (ps:List MemPlace),
  ts.all (fun t=>P.readableRec t&&decide (t<P.types.size))=true→DataW.TrodAll enc P W 0 (fun _=>true) true ts vs ds ps→(∀p∈ps,W.sameAt W' p)→(∀p∈ps,sp p.block=true)→DataW.TrodAll enc P W' 0 sp true ts vs ds ps
 |[],[],[],_,_,h,_,_=>h
 |t::ts,v::vs,d::ds,ps,hr,h,hsame,hsp=>by
  obtain ⟨p,q,h1,h2,rfl⟩:=h
  simp only [List.all_cons,Bool.and_eq_true,decide_eq_true_eq] at hr
  exact ⟨p,q,WideElems.Trod_stays hl hr.1.1 hr.1.2 h1 (fun x hx=>hsame x (by simp [hx])) (fun x hx=>hsp x (by simp [hx])),trodAll_stays hl sp ts vs ds q hr.2 h2 (fun x hx=>hsame x (by simp [hx])) (fun x hx=>hsp x (by simp [hx])),rfl⟩
 |[],[],_::_,_,_,h,_,_=>h.elim
 |[],_::_,_,_,_,h,_,_=>h.elim
 |_::_,[],_,_,_,h,_,_=>h.elim
 |_::_,_::_,[],_,_,h,_,_=>h.elim
theorem law_post {H:Type} {enc:TypeId×Value→H} {fn:Func} {s:ChangeSpec} {W W':World} {args:Array Value} {ds gs:List (DataW H)} {before:List MemPlace} {apart:Bool}
  (hv:s.vars=[]) (hres:fn.resultTypes= #[4]) (hread:fn.params.toList.all (fun t=>Tryz.prog.readableRec t&&decide (t<Tryz.prog.types.size))=true)
  (hW:DataW.Whole enc Tryz.prog fn.params.toList s.vars apart W args.toList ds gs before)
  (hs1:(s.fn H (ds++gs)).results=[.lit (.bool true)]) (hs2:(s.fn H (ds++gs)).args=ds) (hs3:(s.fn H (ds++gs)).vars=[]) (hb:Below W.heap.size W W'):
  s.post enc Tryz.prog fn apart true false false W args (.bool true) W':=by
 have hlt:∀p∈before,p.block<W.heap.size:=fun p hp=>hW.lt p hp
 have hW':=hW
 obtain ⟨p,q,hA,hV,rfl,_,_⟩:=hW
 rw [hv] at hV
 have hq:q=[]:=by cases gs with
  |nil=>exact hV
  |cons _ _=>exact hV.elim
 subst hq
 refine ⟨ds,gs,_,[],p++[],[],hW',?_,?_,?_,hb.frame _,fun h=>by cases h⟩
 ·rw [hres,hs1]
  exact trodAll_cons_mk (shut_bool Tryz.underlying4 true) trodAll_mk0
 ·rw [hs2,List.append_nil]
  exact trodAll_stays laidOutK _ _ _ _ _ hread hA (fun x hx=>hb.same (hlt x (by simp [hx]))) (fun x hx=>by simpa using hlt x (by simp [hx]))
 ·rw [hv,hs3];rfl
abbrev laidL : List (String × DataW Unit) := [("math/bits.deBruijn32tab", Rows.laid_math_bits_deBruijn32tab), ("math/bits.deBruijn64tab", Rows.laid_math_bits_deBruijn64tab), ("internal/strconv.uint64pow10", Rows.laid_internal_strconv_uint64pow10), ("errors.errorType", Rows.laid_errors_errorType), ("tesserae/filter.errNone", Rows.laid_tesserae_filter_errNone), ("tesserae/filter.errGrain", Rows.laid_tesserae_filter_errGrain)]
theorem gTz : Tryz.prog.globalNamed "math/bits.deBruijn64tab" = some 1 := by kernel_rfl
theorem lay64:(Rows.laid_math_bits_deBruijn64tab:DataW Unit)=Lib.tabData .u8 (Lib.deBruijn64tab.map fun (n:Nat)=>(n:Int)):=by rfl
theorem layPow:(Rows.laid_internal_strconv_uint64pow10:DataW Unit)=Lib.tabData .u64 Lib.pow10Tab:=by rfl
theorem gFNone : Tryz.prog.globalNamed "tesserae/filter.errNone" = some 2 := by kernel_rfl
theorem gFGrain : Tryz.prog.globalNamed "tesserae/filter.errGrain" = some 3 := by kernel_rfl
theorem gType : Tryz.prog.globalNamed "errors.errorType" = some 4 := by kernel_rfl
theorem tFNone:(Tryz.prog.globals[2]?).map (·.type)=some 118:=by kernel_rfl
theorem tFGrain:(Tryz.prog.globals[3]?).map (·.type)=some 118:=by kernel_rfl
theorem cellsE:Tryz.prog.cellsOf 307=1:=by kernel_rfl
theorem cellsS:Tryz.prog.cellsOf 9=1:=by kernel_rfl
theorem starE : "*" ++ "errors.errorString" = "*errors.errorString" := by decide
theorem rowE' (u : TypeId) (h : Tryz.prog.typeName? 3 u = some "*errors.errorString") : u = 288 :=
 typeName_ptr_named (nm := "errors.errorString") (by rw [starE]; kernel_rfl) (by kernel_rfl) (by decide) u (by rw [starE]; exact h)
theorem tRt : (Tryz.prog.cutTypes.find? (·.1 == "internal/reflectlite.rtype")).map (·.2) = some 265 := by kernel_rfl
theorem tOne:((List.range 319).filter fun t=>Tryz.prog.rowNamed t [101,114,114,111,114])=[118]:=by kernel_rfl
theorem tSize:Tryz.prog.types.size=319:=by kernel_rfl
theorem door_met (os:Os) (args:Array Value):laidMetH Tryz.prog laidL ((World.doorLaid Tryz.prog 400 os).forCall (fun _ _=>0) ⟨#[],args,[]⟩).memory:=
 laidMetH_of_parts3 (fuel:=8) (laidMet_of_run' 8 (by kernel_rfl) (by kernel_rfl)) (by kernel_rfl) (by kernel_rfl)
theorem six_of_laid {W:World} (h0:laidMetH Tryz.prog laidL W):Tabs W∧(∃am an,SentF am an W)∧TypeR W:=by
 have h' : laidMet Tryz.prog [("math/bits.deBruijn32tab", Rows.laid_math_bits_deBruijn32tab), ("math/bits.deBruijn64tab", Rows.laid_math_bits_deBruijn64tab), ("internal/strconv.uint64pow10", Rows.laid_internal_strconv_uint64pow10), ("tesserae/filter.errNone", Rows.laid_tesserae_filter_errNone), ("tesserae/filter.errGrain", Rows.laid_tesserae_filter_errGrain)] W ∧ handlesMet Tryz.prog [("errors.errorType", Rows.laid_errors_errorType)] W := h0
 obtain ⟨h,hh⟩:=h'
 refine ⟨?_,?_,?_⟩
 ·have h2:=h.tail
  have h3:=h2.tail
  rw [lay64] at h2
  rw [layPow] at h3
  have t1:=Lib.tabIs_of_head gTz (by kernel_rfl) Tryz.underlying203 Tryz.underlying5 (by kernel_rfl) (by kernel_rfl) h2
  have t2:=Lib.tabIs_of_head gPow (by kernel_rfl) Tryz.underlying232 Tryz.underlying95 (by kernel_rfl) (by kernel_rfl) h3
  have c:TabAt 1 Lib.deBruijn64tab W:=fun j hj=>by
   have:=t1.cell gTz j (by simpa using hj)
   rw [this]
   have e:(Lib.deBruijn64tab.map fun (n:Nat)=>(n:Int)).getD j 0=((Lib.deBruijn64tab.getD j 0:Nat):Int):=by
    simp [List.getD,List.getElem?_map]
    cases Lib.deBruijn64tab[j]? <;>rfl
   rw [e]
  refine ⟨t2,c,?_⟩
  have h0:=c 0 (by decide)
  refine Nat.lt_of_not_le fun hle=> ?_
  have hn:W.heap[1]? =none:=Array.getElem?_eq_none hle
  simp [World.cell?,hn] at h0
 ·obtain ⟨a0,a1,s0,s1,c0,c1,t0,t1,hv0,hv1,_,_,_,_,_,_,hne,hb0,hb1⟩:=laid_sentinels2 h.tail.tail.tail gFNone tFNone gFGrain tFGrain Tryz.underlying118 rowE' Tryz.underlying288 Tryz.underlying307 rfl rfl Tryz.underlying9 cellsE cellsS
  refine ⟨a0,a1,?_,?_,hne,⟨c0,t0,hb0⟩,c1,t1,hb1⟩
  ·simpa using World.var?_cell gFGrain hv1 0
  ·simpa using World.var?_cell gFNone hv0 0
 ·obtain ⟨name,u,ty,e1,e2,e3,e4,e5⟩:=hh _ (List.mem_cons_self ..)
  have en:name=[101,114,114,111,114]:=(Option.some.inj e1).symm
  subst en
  obtain rfl:=Option.some.inj (tRt.symm.trans e2)
  have hm:ty∈(List.range 319).filter fun t=>Tryz.prog.rowNamed t [101,114,114,111,114]:=List.mem_filter.2 ⟨List.mem_range.2 (by rw [←tSize];exact e3),e4⟩
  rw [tOne] at hm
  obtain rfl:=List.mem_singleton.1 hm
  have hh:typeHandle Tryz.prog 118= .pointer (some ⟨8,118,none⟩):=by kernel_rfl
  rw [hh] at e5
  unfold TypeR
  simpa using World.var?_cell gType e5 0
set_option maxRecDepth 100000 in
theorem law_lift {H:Type} {enc:TypeId×Value→H} {os:Os} {f:FuncId} {fn:Func} {s:ChangeSpec} {conds:List PathCond}
  (started:os.Started) (noInit:Tryz.prog.inits.idxOf? f=none) (hfn:Tryz.prog.funcs[f]? =some fn)
  (witness:∃(w:World) (tape:Tape) (i:Input),w.os=os∧(w.forCall tape i).Shaped Tryz.checked.prog∧i.vars=[]∧Input.okWide Tryz.checked.prog (w.forCall tape i) .any w.heap.size f i∧
   ((s.pre enc Tryz.checked.prog fn conds false (w.forCall tape i).memory i.args∧laidMetH Tryz.prog laidL (w.forCall tape i).memory)∧sizedMet enc Tryz.checked.prog fn (OpenSpec.ofChange s) false (w.forCall tape i).memory i.args)∧({}:Assume).holds Tryz.checked.prog (lone (Frame.enter Tryz.checked.prog f i.args .normal) [] (w.forCall tape i)))
  (hv:s.vars=[]) (hres:fn.resultTypes= #[4]) (hread:fn.params.toList.all (fun t=>Tryz.prog.readableRec t&&decide (t<Tryz.prog.types.size))=true)
  (hspec:∀ds:List (DataW H),ds.length=fn.params.toList.length→(s.fn H (ds++[])).results=[.lit (.bool true)]∧(s.fn H (ds++[])).args=ds∧(s.fn H (ds++[])).vars=[])
  (walk:∀(W:World) (base:Nat) (args:Array Value) (ds:List (DataW H)) (p:List MemPlace) (am an:Addr),Tabs W→SentF am an W→TypeR W→(∀(j:Nat) t v,fn.params[j]? =some t→args[j]? =some v→Value.okWide Tryz.prog W .any base t v)→
   DataW.TrodAll enc Tryz.prog W 0 (fun _=>true) true fn.params.toList args.toList ds p→(DataW.weightsEach Tryz.prog fn.params.toList ds).all (· ≤reachBytes)=true→
   Calls Tryz.prog f args W fun e W'=>e= .returned (.bool true)∧Below W.heap.size W W'):
  ReturnsInHanded {} Tryz.checked os f .any (fun w args=>(s.pre enc Tryz.prog fn conds false w args∧laidMetH Tryz.prog laidL w)∧sizedMet enc Tryz.prog fn (OpenSpec.ofChange s) false w args) (s.post enc Tryz.prog fn false true false false):=by
 refine returnsInHanded_of_change_and (C:=Tryz.checked) (X:=fun w _=>laidMetH Tryz.prog laidL w) (fun _ _ _ hh h=>h.of_heap hh) ownK started noInit hfn witness ?_
 intro W base args ds gs before hval hW _ hsz hL _
 have hW':=hW
 obtain ⟨p,q,hA,hV,rfl,_,_⟩:=hW
 rw [hv] at hV
 have hg:gs=[]:=by cases gs with
  |nil=>rfl
  |cons _ _=>exact hV.elim
 subst hg
 have hlen:ds.length=fn.params.toList.length:=by
  have:∀(ts:List TypeId) (vs:List Value) (ds:List (DataW H)) (ps:List MemPlace),DataW.TrodAll enc Tryz.prog W 0 (fun _=>true) true ts vs ds ps→ds.length=ts.length:=by
   intro ts
   induction ts with
   |nil=>intro vs ds ps h;cases vs<;>cases ds<;>first|rfl|exact h.elim
   |cons t ts ih=>intro vs ds ps h;cases vs<;>cases ds<;>first|exact h.elim|(obtain ⟨_,_,_,h2,_⟩:=h;simp [ih _ _ _ h2])
  exact this _ _ _ _ hA
 obtain ⟨hs1,hs2,hs3⟩:=hspec ds hlen
 have hsz':(DataW.weightsEach Tryz.prog fn.params.toList ds).all (· ≤reachBytes)=true:=by
  have e:fn.params.toList++s.plain.varTypes Tryz.prog=fn.params.toList:=by
   have:s.plain.varTypes Tryz.prog=[]:=by simp [DataSpec.varTypes,ChangeSpec.plain,hv]
   rw [this,List.append_nil]
  have h2:=hsz
  rw [List.append_nil] at h2
  rw [←e];exact h2
 obtain ⟨hTab,⟨am,an,hS⟩,hT⟩:=six_of_laid hL
 refine (walk W base args ds p am an hTab hS hT hval hA hsz').mono fun e W' ⟨he,hb⟩=> ?_
 exact ⟨_,he,law_post hv hres hread hW' hs1 hs2 hs3 hb⟩
end Go.Proofs.YtejleplhmkmegaaGreatDoor
