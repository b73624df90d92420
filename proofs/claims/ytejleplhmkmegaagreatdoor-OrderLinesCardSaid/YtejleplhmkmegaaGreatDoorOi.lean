/- Texts joined: OtE, OtF. -/
import Derived.Test.YtejleplhmkmegaaGreatDoorOh
set_option linter.unusedVariables false
set_option linter.unusedSimpArgs false
namespace Go.Proofs.YtejleplhmkmegaaGreatDoor
set_option maxRecDepth 100000
open Go.ChangeShapes Go.WideShapes Go.ChangeAt Go.RowKit Go.Fl
set_option maxHeartbeats 8000000 in
theorem merge_right (q:QryV) (ks:List KeyD) (n:Nat) (fs:List Bool) (w0 w:World) (B cap:Nat) (P A S:List El) (y:El) (a m b N:Nat) (hl:(P++A++[y]++S).length=N) (ha:a=P.length) (hm:m=a+A.length) (hb:b=m+1) (hA:A.length≠1)
  (hN:N≤1000000) (hc:N≤cap) (hc2:cap≤maxLen) (hi:∀x∈A,x.i<y.i) (hs:A.Pairwise (ltE ks)) (hok:CmpOk w0 B q ks n fs (A++[y])) (h:SortSt w0 w B (P++A++[y]++S)):
  Calls Tryz.prog 129 #[.slice (some ⟨B,0,none⟩) N cap,.int .i64 a,.int .i64 m,.int .i64 b,sortV q] w (MergePost w0 B ks P A [y] S):=by
 have F0:=hid (show a=P.length∧m=a+A.length∧b=m+1∧b≤N from ⟨ha,hm,hb,by rw [←hl];simp;omega⟩)
 have HI:=hid hi;have HOK:=hid hok;have HL:=hid hl;have HP:=hid hs
 have HS0:=hid h
 obtain ⟨na,hna⟩:∃na,na=A.length:=⟨_,rfl⟩
 have v1:((m:Int)-(a:Int))=(na:Int):=by omega
 have v1':=wrapN na (by have:=F0.out;omega)
 have v1b:((na:Int)==1)=false:=by simp;omega
 have v1a:na≠1:=by omega
 have v0:((b:Int)-(m:Int))=1:=by omega
 have hbN:b≤N:=F0.out.2.2.2
 unfold sortV
 clear h ha hb hi hok hl hm hs hna hA
 go_enter Tryz.func129,Tryz.ntmps129
 go_wp2
 go_loopw [14,15] (fun iv jv wr=>∃(i j:Nat) (A1 D E:List El),iv= .int .i64 (i:Int)∧jv= .int .i64 (j:Int)∧i=a+A1.length∧j=i+D.length∧A=A1++D++E∧(∀A' z,A1=A'++[z]→ltE ks z y)∧(∀z E',E=z::E'→ltE ks y z)∧SortSt w0 wr B (P++A++[y]++S)) (fun iv jv _=>(intOf jv).toNat-(intOf iv).toNat)
 case atStart=>exact ⟨a,m,[],A,[],rfl,rfl,by simp,F0.out.2.1,by simp,by simp,by simp,HS0.out⟩
 case round=>
  obtain ⟨i,j,A1,D,E,rfl,rfl,hi,hj,hC,h1,h2,hst⟩:=hrel
  have hjb:j≤m:=by have:=F0.out;have:=congrArg List.length hC;simp at this;omega
  have hmN:m<N:=by have:=F0.out;omega
  cases hD:D.length with
  |zero=>
   obtain rfl:=List.eq_nil_of_length_eq_zero hD
   have hij:decide (i<j)=false:=by simp;omega
   have hME:(A1++y::E).Perm (A++[y]):=by
    rw [hC]
    simp only [List.append_nil]
    exact perm_mid A1 E y
   have hMS:(A1++y::E).Pairwise (ltE ks):=by
    have hs:=HP.out
    rw [hC,List.append_nil] at hs
    exact sorted_mid2 (n:=n) (fs:=fs) (fun e he=>(HOK.out.el e (by rw [hC];simp at he ⊢;rcases he with he|he;exact .inl he;exact .inr (.inl he))).2) (HOK.out.el y (by simp)).2 hs h1 h2
   have FM:=hid (And.intro hME hMS)
   have hT:SortSt w0 wr B (P++A1++E++y::([]++S)):=by have:=hst;rw [hC] at this;simpa using this
   have HT:=hid hT
   have FI:=hid (show i=a+A1.length∧A=A1++[]++E from ⟨hi,hC⟩)
   have hiN:i≤m:=by omega
   clear hi hj hC h1 h2 hst hT hME hMS hD
   go_wp2
   go_loopw [17] (fun kv wr=>∃(k:Nat) (E2 E3:List El),kv= .int .i64 (k:Int)∧k=i+E2.length∧E=E2++E3∧SortSt w0 wr B (P++A1++E2++y::(E3++S))) (fun kv _=>(intOf kv).toNat)
   case atStart=>exact ⟨m,E,[],rfl,by have:=F0.out;have:=FI.out;have e:=congrArg List.length this.2;simp at e;omega,by simp,HT.out⟩
   case round=>
    obtain ⟨k,E2,E3,rfl,hk,hE,hst⟩:=hrel
    have hkm:k≤m:=by have:=F0.out;have:=FI.out;have e:=congrArg List.length this.2;have e2:=congrArg List.length hE;simp at e e2;omega
    cases hE2:E2.length with
    |zero=>
     obtain rfl:=List.eq_nil_of_length_eq_zero hE2
     have hki:decide (i<k)=false:=by simp at hk ⊢;omega
     have HST:=hid hst;have HE:=hid hE
     clear hst hE hk hE2
     go_wp2
     go_end0
     exact ⟨rfl,_,FM.out.1,FM.out.2,by have:=HST.out;rw [HE.out];simpa using this⟩
    |succ r=>
     obtain ⟨E2',z,rfl,hr⟩:=snoc_of hE2
     have hki:decide (i<k)=true:=by simp at hk ⊢;omega
     obtain ⟨km,hkm1⟩:∃km,km+1=k:=⟨i+r,by simp at hk;omega⟩
     have v2:((k:Int)-1)=(km:Int):=by omega
     have v3:=wrapN km (by omega)
     have v4:=wrapN k (by omega)
     have q1:(0:Int)≤(k:Int):=by omega
     have q2:(k:Int)<(N:Int):=by omega
     have q3:(0:Int)≤(km:Int):=by omega
     have q4:(km:Int)<(N:Int):=by omega
     have FK:=hid (show k=i+(E2'++[z]).length∧E=E2'++[z]++E3∧km+1=k from ⟨hk,hE,hkm1⟩)
     obtain ⟨T,hTd⟩:∃T,T=(P++A1++E2')++z::y::(E3++S):=⟨_,rfl⟩
     have hst':SortSt w0 wr B T:=by rw [hTd];simpa using hst
     have hlen:km=(P++A1++E2').length:=by have:=F0.out;have:=FI.out;simp at hk ⊢;omega
     have hx:T[km]? =some z:=by rw [hTd,hlen];exact get_mid _ _ _
     have hy:T[k]? =some y:=by
      have e:T=(P++A1++E2'++[z])++y::(E3++S):=by rw [hTd];simp
      rw [e,show k=(P++A1++E2'++[z]).length by rw [List.length_append,←hlen];simp;omega];exact get_mid _ _ _
     have HTL:Hid (T.length=N):=by have:=HL.out;have e:=FI.out.2;rw [e,hE] at this;unfold Hid;rw [hTd];simp at this ⊢;omega
     have HTD:=hid (And.intro hTd hlen)
     clear hst hk hE hkm1 hTd hlen hE2 hr
     obtain ⟨h0,h1,h2,h3⟩:=hst'.at_.cell hx
     obtain ⟨k0,k1,k2,k3⟩:=hst'.at_.cell hy
     have HST3:=hid hst'
     obtain ⟨cur,hcur,hsz⟩:=hst'.at_.row
     have HC:=hid hcur
     have HSZ:Hid (N*4≤cur.size):=by have:=HTL.out;rw [this] at hsz;exact hsz
     have HXY:=hid (And.intro hx hy)
     clear hcur hsz hst' hx hy
     go_wp2
     have hS0:(fun w':World=>(w'.cell? ⟨B,km*4,none⟩=some (.int .i64 z.v.st)∧w'.cell? ⟨B,km*4+1,none⟩=some (.int .i64 z.v.tm)∧w'.cell? ⟨B,km*4+2,none⟩=some (.slice z.v.ka z.v.kn z.v.kc)∧w'.cell? ⟨B,km*4+3,none⟩=some (.slice z.v.na z.v.nn z.v.nc))∧(w'.cell? ⟨B,k*4,none⟩=some (.int .i64 y.v.st)∧w'.cell? ⟨B,k*4+1,none⟩=some (.int .i64 y.v.tm)∧w'.cell? ⟨B,k*4+2,none⟩=some (.slice y.v.ka y.v.kn y.v.kc)∧w'.cell? ⟨B,k*4+3,none⟩=some (.slice y.v.na y.v.nn y.v.nc))) wr.drew:=⟨⟨h0,h1,h2,h3⟩,k0,k1,k2,k3⟩
     refine wp_region_some (fun w':World=>(w'.cell? ⟨B,km*4,none⟩=some (.int .i64 z.v.st)∧w'.cell? ⟨B,km*4+1,none⟩=some (.int .i64 z.v.tm)∧w'.cell? ⟨B,km*4+2,none⟩=some (.slice z.v.ka z.v.kn z.v.kc)∧w'.cell? ⟨B,km*4+3,none⟩=some (.slice z.v.na z.v.nn z.v.nc))∧(w'.cell? ⟨B,k*4,none⟩=some (.int .i64 y.v.st)∧w'.cell? ⟨B,k*4+1,none⟩=some (.int .i64 y.v.tm)∧w'.cell? ⟨B,k*4+2,none⟩=some (.slice y.v.ka y.v.kn y.v.kc)∧w'.cell? ⟨B,k*4+3,none⟩=some (.slice y.v.na y.v.nn y.v.nc))) [2,3,4,14,15,16,17] (by kernel_rfl) ?_
     (refine wpMix_free (i:=2) (v:= ?_) rfl (by kernel_rfl) (fun _ _ _ h=>h) (Or.inl ⟨by rfl,?_⟩) ?_;rotate_left 1;(focus (intro w hSw;go_simp;try (with_reducible rfl)));(try simp only [Act.put,List.setIfInBounds_toArray,List.set_cons_zero,List.set_cons_succ]))
     (refine wpMix_free (i:=3) (v:= ?_) rfl (by kernel_rfl) (fun _ _ _ h=>h) (Or.inl ⟨by rfl,?_⟩) ?_;rotate_left 1;(focus (intro w hSw;go_simp;try (with_reducible rfl)));(try simp only [Act.put,List.setIfInBounds_toArray,List.set_cons_zero,List.set_cons_succ]))
     (refine wpMix_free (i:=4) (v:= ?_) rfl (by kernel_rfl) (fun _ _ _ h=>h) (Or.inl ⟨by rfl,?_⟩) ?_;rotate_left 1;(focus (intro w hSw;go_simp;try (with_reducible rfl)));(try simp only [Act.put,List.setIfInBounds_toArray,List.set_cons_zero,List.set_cons_succ]))
     refine Tk 0 hS0 ?_
     refine Tk 1 hS0 ?_
     refine Tk 5 hS0 ?_
     refine Tk 6 hS0 ?_
     refine Tk 7 hS0 ?_
     refine Tk 8 hS0 ?_
     refine Tk 9 hS0 ?_
     refine Tk 10 hS0 ?_
     refine Tk 11 hS0 ?_
     refine Tk 12 hS0 ?_
     refine Tk 13 hS0 ?_
     refine wpMix_rest [14,15,16,17] (by kernel_rfl) ?_
     simp only [opsAt,Ol]
     clear hS0 h0 h1 h2 h3 k0 k1 k2 k3
     go_wp2_with (first
      |(refine wpList_store_at rfl _ _ _ rfl B (k*4) z.v.cells rfl rfl _ cur HC.out (by exact linfoS) (by have:=HSZ.out;rw [lncells_size];omega) (lncells_one _) ?_;intro X1 hX1 gX1 zX1;have s1:=hid (SortSt.put HST3.out.drew HC.out (by have:=HTL.out;omega) z hX1 gX1);have HC1:=hid hX1;clear hX1 gX1 zX1)
      |(refine wpList_store_at rfl _ _ _ rfl B (km*4) y.v.cells rfl rfl _ _ HC1.out (by exact linfoS) (by have:=HSZ.out;rw [lncells_size,putAt_size _ _ _ (by rw [lncells_size];omega)];omega) (lncells_one _) ?_;intro X2 hX2 gX2 zX2;have s2:=hid (SortSt.put s1.out HC1.out (by have:=HTL.out;rw [List.length_set];omega) y hX2 gX2);clear hX2 gX2 zX2))
     have es:(T.set k z).set km y=(P++A1++E2')++y::z::(E3++S):=by
      have h:=swp_next (P++A1++E2') (E3++S) z y HTD.out.2 (by have:=FK.out;have:=HTD.out.2;omega:k=(P++A1++E2').length+1)
      rw [←HTD.out.1] at h
      unfold swp at h
      rw [HXY.out.1,HXY.out.2] at h
      exact h
     have HS4:=hid s2.out
     rw [es] at HS4
     go_roundw
     case rel=>exact ⟨km,E2',z::E3,rfl,by have:=FK.out;simp at this;omega,by rw [FK.out.2.1];simp,by have:=HS4.out;simpa using this⟩
     case measure=>have:=FK.out;simp [intOf];omega
  |succ k=>
   obtain ⟨D1,x,D2,rfl,hd⟩:=half_at D (by omega)
   obtain ⟨g,hg⟩:∃g,g=i+D1.length:=⟨_,rfl⟩
   obtain ⟨ij,hij0⟩:∃ij,ij=i+j:=⟨_,rfl⟩
   have hij:decide (i<j)=true:=by simp;omega
   have v2:((i:Int)+(j:Int))=(ij:Int):=by omega
   have v3:=wrapN ij (by omega)
   have v4:=wrapU ij (by omega)
   have v5:((ij:Int)/2)=(g:Int):=by omega
   have v6:=wrapN g (by omega)
   have v7:=wrapU g (by omega)
   have v8:((g:Int)+1)=((g+1:Nat):Int):=by omega
   have v9:=wrapN (g+1) (by omega)
   obtain ⟨g1,hg1⟩:∃g1,g1=g+1:=⟨_,rfl⟩
   rw [←hg1] at v8 v9
   have hgN:g<N:=by omega
   have hxA:x∈A:=by rw [hC];simp
   have hy:(P++A++[y]++S)[m]? =some y:=by
    have e:P++A++[y]++S=(P++A)++y::S:=by simp
    have e2:m=(P++A).length:=by have:=F0.out;simp;omega
    rw [e,e2];exact get_mid _ _ _
   have hx:(P++A++[y]++S)[g]? =some x:=by
    have e:P++A++[y]++S=(P++A1++D1)++x::(D2++E++[y]++S):=by rw [hC];simp
    have e2:g=(P++A1++D1).length:=by have:=F0.out;simp;omega
    rw [e,e2];exact get_mid _ _ _
   obtain ⟨x0,x1,x2,x3⟩:=hst.at_.cell hx
   obtain ⟨y0,y1,y2,y3⟩:=hst.at_.cell hy
   have CMP:=hid (fun W (hb:Below wr.heap.size wr W)=>cmp_now HOK.out hst (show y∈A++[y] from by simp) (show x∈A++[y] from by simp [hxA]) W hb)
   have HLT:=hid (ltE_cmp (ks:=ks) (HI.out x hxA))
   have HNT:=hid (ltE_not (ks:=ks) (HOK.out.el x (by simp [hxA])).2 (HOK.out.el y (by simp)).2 (HI.out x hxA))
   have hst2:=hid hst
   have FG:=hid (show i=a+A1.length∧j=i+(D1++x::D2).length∧g=i+D1.length∧g1=g+1∧A=A1++(D1++x::D2)++E∧(∀A' z,A1=A'++[z]→ltE ks z y)∧(∀z E',E=z::E'→ltE ks y z) from ⟨hi,hj,hg,hg1,hC,h1,h2⟩)
   have q1:(0:Int)≤(g:Int):=by omega
   have q2:(g:Int)<(N:Int):=by omega
   have q3:(0:Int)≤(m:Int):=by omega
   have q4:(m:Int)<(N:Int):=by omega
   have w1:=wrapN m (by omega)
   clear hi hj hC h1 h2 hg hg1 hd hD hx hy hst hij0 hxA
   generalize cmpK ks y.l x.l=c at*
   have p0:=World.plus_cell x0;have p1:=World.plus_cell x1;have p2:=World.plus_cell x2;have p3:=World.plus_cell x3
   have p4:=World.plus_cell y0;have p5:=World.plus_cell y1;have p6:=World.plus_cell y2;have p7:=World.plus_cell y3
   go_wp2
   refine wp_region_plus (by kernel_rfl) (by kernel_rfl) ?_
   repeat (first|go_big_quiet_skip|(go_big_quiet_want;go_big_quiet_op;first|go_big_quiet_on|go_big_quiet_call (((go_at_call 25;exact Calls.plus_of (CMP.out _ (World.plus_below _ _)))))))
   refine wpQuiet_nil ?_
   rintro _ ⟨xq,rfl⟩
   have HST3:=hid (hst2.out.step (World.plus_below _ xq))
   clear p0 p1 p2 p3 p4 p5 p6 p7 x0 x1 x2 x3 y0 y1 y2 y3 hst2
   generalize World.plus wr xq=wr2 at*
   cases hcd:decide (c<0)
   ·have hc0:¬c<0:=of_decide_eq_false hcd
    have hxy:ltE ks x y:=HNT.out.1 (fun h=>hc0 (HLT.out.1 h))
    clear hcd hc0
    simp only [Bool.not_false]
    go_wp2
    go_roundw
    case rel=>exact ⟨g1,j,A1++(D1++[x]),D2,E,rfl,rfl,by have:=FG.out;simp;omega,by have:=FG.out;simp at this;omega,by rw [FG.out.2.2.2.2.1];simp,fun C' z e=>by rw [←List.append_assoc] at e;have:=(List.append_inj' e rfl).2;simp at this;rw [←this];exact hxy,FG.out.2.2.2.2.2.2,HST3.out⟩
    case measure=>have:=FG.out;simp [intOf] at this ⊢;omega
   ·have hc0:c<0:=of_decide_eq_true hcd
    have hyx:ltE ks y x:=HLT.out.2 hc0
    clear hcd hc0
    simp only [Bool.not_true]
    go_wp2
    go_roundw
    case rel=>exact ⟨i,g,A1,D1,x::D2++E,rfl,rfl,FG.out.1,FG.out.2.2.1,by rw [FG.out.2.2.2.2.1];simp,FG.out.2.2.2.2.2.1,fun z E' e=>by have:=(List.cons.inj e).1;rw [←this];exact hyx,HST3.out⟩
    case measure=>have:=FG.out;simp [intOf] at this ⊢;omega
structure SymCut (ks:List KeyD) (A C A1 A2 C1 C2:List El):Prop where
 a:A=A1++A2
 c:C=C1++C2
 ac:∀x∈A1,∀y∈C2,ltE ks x y
 ca:∀y∈C1,∀x∈A2,ltE ks y x
theorem SymCut.join {ks:List KeyD} {A C A1 A2 C1 C2 M1 M2:List El} (h:SymCut ks A C A1 A2 C1 C2) (hA:A.Pairwise (ltE ks)) (hC:C.Pairwise (ltE ks)) (p1:M1.Perm (A1++C1)) (s1:M1.Pairwise (ltE ks)) (p2:M2.Perm (A2++C2)) (s2:M2.Pairwise (ltE ks)):
  (M1++M2).Perm (A++C)∧(M1++M2).Pairwise (ltE ks):=by
 rw [h.a,List.pairwise_append] at hA
 rw [h.c,List.pairwise_append] at hC
 constructor
 ·rw [h.a,h.c]
  refine (p1.append p2).trans ?_
  rw [List.append_assoc,List.append_assoc]
  refine List.Perm.append_left A1 ?_
  rw [←List.append_assoc,←List.append_assoc]
  exact List.Perm.append_right C2 List.perm_append_comm
 ·rw [List.pairwise_append]
  refine ⟨s1,s2,fun x hx y hy=> ?_⟩
  have hx':=p1.mem_iff.1 hx
  have hy':=p2.mem_iff.1 hy
  rcases List.mem_append.1 hx' with hx'|hx'<;>rcases List.mem_append.1 hy' with hy'|hy'
  ·exact hA.2.2 x hx' y hy'
  ·exact h.ac x hx' y hy'
  ·exact h.ca x hx' y hy'
  ·exact hC.2.2 x hx' y hy'
theorem cross_all {ks:List KeyD} {n:Nat} {fs:List Bool} {A C:List El} (hfA:∀e∈A,FormE n fs e) (hfC:∀e∈C,FormE n fs e) (hA:A.Pairwise (ltE ks)) (hC:C.Pairwise (ltE ks)) (h:∀A' x y C',A=A'++[x]→C=y::C'→ltE ks x y):∀x∈A,∀y∈C,ltE ks x y:=by
 intro x hx y hy
 cases hA0:A.length with
 |zero=>rw [List.eq_nil_of_length_eq_zero hA0] at hx;cases hx
 |succ k=>
  obtain ⟨A',x',rfl,_⟩:=snoc_of hA0
  cases C with
  |nil=>cases hy
  |cons y' C'=>
   have h0:=h A' x' y' C' rfl rfl
   have h1:ltE ks x y':=by
    rcases List.mem_append.1 hx with hx'|hx'
    ·rw [List.pairwise_append] at hA
     exact ltE_trans (hfA x hx) (hfA x' (by simp)) (hfC y' (by simp)) (hA.2.2 x hx' x' (by simp)) h0
    ·rw [List.mem_singleton] at hx';rw [hx'];exact h0
   rcases List.mem_cons.1 hy with rfl|hy'
   ·exact h1
   ·exact ltE_trans (hfA x hx) (hfC y' (by simp)) (hfC y hy) h1 ((List.pairwise_cons.1 hC).1 y hy')
def SymEnds (a m b mid s0 r0:Nat):Prop:=(mid<m∧s0=mid+m-b∧r0=mid)∨(m≤mid∧s0=a∧r0=m)
structure SymInv (ks:List KeyD) (T:List El) (p s0 r0 u v:Nat):Prop where
 lo:s0≤u
 uv:u≤v
 hi:v≤r0
 q1:u=s0∨∃x y,T[u-1]? =some x∧T[p-(u-1)]? =some y∧ltE ks x y
 q2:v=r0∨∃x y,T[v]? =some x∧T[p-v]? =some y∧ltE ks y x
theorem symcut_of {ks:List KeyD} {n:Nat} {fs:List Bool} {P A C S:List El} {a m b mid s0 r0 st e:Nat} (hA:A.Pairwise (ltE ks)) (hC:C.Pairwise (ltE ks)) (hf:∀x∈A++C,FormE n fs x)
  (ha:a=P.length) (hm:m=a+A.length) (hb:b=m+C.length) (hA0:0<A.length) (hC0:0<C.length) (hmid:mid=(a+b)/2) (he:SymEnds a m b mid s0 r0) (hi:SymInv ks (P++A++C++S) (mid+m-1) s0 r0 st st) (hee:e=mid+m-st):
  ∃A1 A2 C1 C2,SymCut ks A C A1 A2 C1 C2∧a+A1.length=st∧m+C1.length=e∧a+A1.length+C1.length=mid∧mid+A2.length=e∧e+C2.length=b:=by
 have h1:=hi.lo;have h2:=hi.hi
 have hst:a≤st∧st≤m∧m≤e∧e≤b:=by
  unfold SymEnds at he
  omega
 obtain ⟨A1,A2,rfl,l1,l2⟩:=part_at A (st-a) (by omega)
 obtain ⟨C1,C2,rfl,l3,l4⟩:=part_at C (e-m) (by omega)
 simp only [List.length_append] at l2 l4 hm hb hA0 hC0
 rw [List.pairwise_append] at hA hC
 refine ⟨A1,A2,C1,C2,⟨rfl,rfl,?_,?_⟩,by omega,by omega,by omega,by omega,by omega⟩
 ·refine cross_all (fun x hx=>hf x (by simp [hx])) (fun x hx=>hf x (by simp [hx])) hA.1 hC.2.1 (fun A' x y C' e1 e2=> ?_)
  subst e1 e2
  simp at l1 l4
  rcases hi.q1 with hq|⟨x',y',hx,hy,hxy⟩
  ·exfalso
   unfold SymEnds at he
   simp at hb
   omega
  ·have ex:(P++(A'++[x]++A2)++(C1++y::C')++S)[st-1]? =some x:=by
    have e1:P++(A'++[x]++A2)++(C1++y::C')++S=(P++A')++x::(A2++(C1++y::C')++S):=by simp
    rw [e1,show st-1=(P++A').length by simp;omega]
    exact get_mid _ _ _
   have ey:(P++(A'++[x]++A2)++(C1++y::C')++S)[mid+m-1-(st-1)]? =some y:=by
    have e1:P++(A'++[x]++A2)++(C1++y::C')++S=(P++(A'++[x]++A2)++C1)++y::(C'++S):=by simp
    rw [e1,show mid+m-1-(st-1)=(P++(A'++[x]++A2)++C1).length by simp at hm ⊢;omega]
    exact get_mid _ _ _
   rw [ex] at hx;rw [ey] at hy
   rw [Option.some.inj hx,Option.some.inj hy]
   exact hxy
 ·refine cross_all (fun x hx=>hf x (by simp [hx])) (fun x hx=>hf x (by simp [hx])) hC.1 hA.2.1 (fun C' y x A' e1 e2=> ?_)
  subst e1 e2
  simp at l3 l2
  rcases hi.q2 with hq|⟨x',y',hx,hy,hxy⟩
  ·exfalso
   unfold SymEnds at he
   simp at hm
   omega
  ·have ex:(P++(A1++x::A')++(C'++[y]++C2)++S)[st]? =some x:=by
    have e1:P++(A1++x::A')++(C'++[y]++C2)++S=(P++A1)++x::(A'++(C'++[y]++C2)++S):=by simp
    rw [e1,show st=(P++A1).length by simp;omega]
    exact get_mid _ _ _
   have ey:(P++(A1++x::A')++(C'++[y]++C2)++S)[mid+m-1-st]? =some y:=by
    have e1:P++(A1++x::A')++(C'++[y]++C2)++S=(P++(A1++x::A')++C')++y::(C2++S):=by simp
    rw [e1,show mid+m-1-st=(P++(A1++x::A')++C').length by simp at hm ⊢;omega]
    exact get_mid _ _ _
   rw [ex] at hx;rw [ey] at hy
   rw [Option.some.inj hx,Option.some.inj hy]
   exact hxy
theorem elem_at {α:Type} (l:List α) {i:Nat} (h:i<l.length):∃l1 x l2,l=l1++x::l2∧l1.length=i:=by
 obtain ⟨l1,l2,h1,h2,h3⟩:=part_at l i (by omega)
 cases l2 with
 |nil=>simp at h3;omega
 |cons x l2=>exact ⟨l1,x,l2,h1,h2⟩
theorem sym_at {P A C S:List El} {a m b mid s0 r0 c p:Nat} (ha:a=P.length) (hm:m=a+A.length) (hb:b=m+C.length) (hmid:mid=(a+b)/2) (he:SymEnds a m b mid s0 r0) (hp:p=mid+m-1) (h1:s0≤c) (h2:c<r0):
  ∃x y,x∈A∧y∈C∧(P++A++C++S)[c]? =some x∧(P++A++C++S)[p-c]? =some y∧c≤p∧c<b∧p-c<b:=by
 have hr:a≤c∧c<m∧m≤p-c∧p-c<b∧c≤p:=by
  unfold SymEnds at he
  omega
 obtain ⟨A1,x,A2,hA,l1⟩:=elem_at A (i:=c-a) (by omega)
 obtain ⟨C1,y,C2,hC,l2⟩:=elem_at C (i:=p-c-m) (by omega)
 refine ⟨x,y,by rw [hA];simp,by rw [hC];simp,?_,?_,by omega,by omega,by omega⟩
 ·have e:P++A++C++S=(P++A1)++x::(A2++C++S):=by rw [hA];simp
  rw [e,show c=(P++A1).length by simp;omega]
  exact get_mid _ _ _
 ·have e:P++A++C++S=(P++A++C1)++y::(C2++S):=by rw [hC];simp
  rw [e,show p-c=(P++A++C1).length by simp;omega]
  exact get_mid _ _ _
theorem SymInv.left {ks:List KeyD} {T:List El} {p s0 r0 u v c:Nat} {x y:El} (h:SymInv ks T p s0 r0 u v) (h1:u≤c) (h2:c<v) (hx:T[c]? =some x) (hy:T[p-c]? =some y) (hl:ltE ks x y):SymInv ks T p s0 r0 (c+1) v:=
 ⟨by have:=h.lo;omega,by omega,h.hi,.inr ⟨x,y,hx,hy,hl⟩,h.q2⟩
theorem SymInv.right {ks:List KeyD} {T:List El} {p s0 r0 u v c:Nat} {x y:El} (h:SymInv ks T p s0 r0 u v) (h1:u≤c) (h2:c<v) (hx:T[c]? =some x) (hy:T[p-c]? =some y) (hl:ltE ks y x):SymInv ks T p s0 r0 u c:=
 ⟨h.lo,h1,by have:=h.hi;omega,h.q1,.inr ⟨x,y,hx,hy,hl⟩⟩
end Go.Proofs.YtejleplhmkmegaaGreatDoor
