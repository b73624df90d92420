/- Texts joined: OtG. -/
import Derived.Test.YtejleplhmkmegaaGreatDoorOi
set_option linter.unusedVariables false
set_option linter.unusedSimpArgs false
namespace Go.Proofs.YtejleplhmkmegaaGreatDoor
set_option maxRecDepth 100000
open Go.ChangeShapes Go.WideShapes Go.ChangeAt Go.RowKit Go.Fl
def MergeRec (q:QryV) (ks:List KeyD) (n:Nat) (fs:List Bool) (w0:World) (B cap N L:Nat):Prop:=
 ∀(W:World) (P A C S:List El) (a m b:Nat),A.length+C.length<L→(P++A++C++S).length=N→a=P.length→m=a+A.length→b=m+C.length→0<A.length→0<C.length→(∀x∈A,∀y∈C,x.i<y.i)→A.Pairwise (ltE ks)→C.Pairwise (ltE ks)→CmpOk w0 B q ks n fs (A++C)→SortSt w0 W B (P++A++C++S)→
  Calls Tryz.prog 129 #[.slice (some ⟨B,0,none⟩) N cap,.int .i64 a,.int .i64 m,.int .i64 b,sortV q] W (MergePost w0 B ks P A C S)
set_option maxHeartbeats 8000000 in
theorem merge_step (q:QryV) (ks:List KeyD) (n:Nat) (fs:List Bool) (w0 w:World) (B cap:Nat) (P A C S:List El) (a m b N:Nat) (hl:(P++A++C++S).length=N) (ha:a=P.length) (hm:m=a+A.length) (hb:b=m+C.length) (hA:2≤A.length) (hC:2≤C.length)
  (hN:N≤1000000) (hc:N≤cap) (hc2:cap≤maxLen) (hi:∀x∈A,∀y∈C,x.i<y.i) (hsA:A.Pairwise (ltE ks)) (hsC:C.Pairwise (ltE ks)) (hok:CmpOk w0 B q ks n fs (A++C)) (h:SortSt w0 w B (P++A++C++S)) (HR:MergeRec q ks n fs w0 B cap N (A.length+C.length)):
  Calls Tryz.prog 129 #[.slice (some ⟨B,0,none⟩) N cap,.int .i64 a,.int .i64 m,.int .i64 b,sortV q] w (MergePost w0 B ks P A C S):=by
 have F0:=hid (show a=P.length∧m=a+A.length∧b=m+C.length∧b≤N from ⟨ha,hm,hb,by rw [←hl];simp;omega⟩)
 have FA:=hid (And.intro hA hC)
 have HI:=hid hi;have HOK:=hid hok;have HL:=hid hl;have HPA:=hid hsA;have HPC:=hid hsC
 have HS0:=hid h
 have HREC:=hid HR
 obtain ⟨na,hna⟩:∃na,na=A.length:=⟨_,rfl⟩
 obtain ⟨nc,hnc⟩:∃nc,nc=C.length:=⟨_,rfl⟩
 obtain ⟨ab,hab⟩:∃ab,ab=a+b:=⟨_,rfl⟩
 obtain ⟨mid,hmid⟩:∃mid,mid=(a+b)/2:=⟨_,rfl⟩
 obtain ⟨nn,hnn⟩:∃nn,nn=mid+m:=⟨_,rfl⟩
 obtain ⟨p,hp⟩:∃p,p=mid+m-1:=⟨_,rfl⟩
 obtain ⟨s0,r0,he⟩:∃s0 r0,SymEnds a m b mid s0 r0:=by
  by_cases h:mid<m
  ·exact ⟨_,_,.inl ⟨h,rfl,rfl⟩⟩
  ·exact ⟨_,_,.inr ⟨by omega,rfl,rfl⟩⟩
 have hbN:b≤N:=F0.out.2.2.2
 have v1:((m:Int)-(a:Int))=(na:Int):=by omega
 have v1a:=wrapN na (by omega)
 have v1b:((na:Int)==1)=false:=by simp;omega
 have v2:((b:Int)-(m:Int))=(nc:Int):=by omega
 have v2a:=wrapN nc (by omega)
 have v2b:((nc:Int)==1)=false:=by simp;omega
 have v3:((a:Int)+(b:Int))=(ab:Int):=by omega
 have v3a:=wrapN ab (by omega)
 have v3b:=wrapU ab (by omega)
 have v3c:((ab:Int)/2)=(mid:Int):=by omega
 have v3d:=wrapU mid (by omega)
 have v3e:=wrapN mid (by omega)
 have v4:((mid:Int)+(m:Int))=(nn:Int):=by omega
 have v4a:=wrapN nn (by omega)
 have v5:((nn:Int)-1)=(p:Int):=by omega
 have v5a:=wrapN p (by omega)
 have FM:=hid (show mid=(a+b)/2∧nn=mid+m∧p=mid+m-1∧SymEnds a m b mid s0 r0 from ⟨hmid,hnn,hp,he⟩)
 have HNA:=hid (And.intro hna hnc)
 unfold sortV
 clear h ha hb hi hok hl hm hA hC hsA hsC HR hna hnc hab hmid hnn hp he
 go_enter Tryz.func129,Tryz.ntmps129
 go_upto_if 140 with fail
 go_cut [20,21] (fun s20 s21 wx=>s20= .int .i64 (s0:Nat)∧s21= .int .i64 (r0:Nat)∧wx=w)
 case first=>as_aux_lemma=>
  rcases FM.out.2.2.2 with ⟨h1,h2,h3⟩|⟨h1,h2,h3⟩
  ·have d1:decide (mid<m)=true:=by simp;omega
   have e1:((nn:Int)-(b:Int))=(s0:Int):=by have:=F0.out;have:=FM.out;omega
   have e2:=wrapN s0 (by omega)
   have H3:=hid h3
   clear h2 h3
   go_wp2
   go_meet
   exact ⟨rfl,by rw [H3.out],rfl⟩
  ·have d1:decide (mid<m)=false:=by simp;omega
   have H3:=hid (And.intro h2 h3)
   have h1':¬mid<m:=by omega
   clear h1 h2 h3
   go_wp2
   go_meet
   exact ⟨by rw [H3.out.1],by rw [H3.out.2],rfl⟩
 case rest=>as_aux_lemma=>
  obtain ⟨rfl,rfl,rfl⟩:=hcut
  go_wp2
  go_loopw [20,21] (fun uv vv wr=>∃(u v:Nat),uv= .int .i64 (u:Int)∧vv= .int .i64 (v:Int)∧SymInv ks (P++A++C++S) p s0 r0 u v∧SortSt w0 wr B (P++A++C++S)) (fun uv vv _=>(intOf vv).toNat-(intOf uv).toNat)
  case atStart=>exact ⟨s0,r0,rfl,rfl,⟨Nat.le_refl _,by have:=FM.out;have:=F0.out;have:=FA.out;unfold SymEnds at*;omega,Nat.le_refl _,.inl rfl,.inl rfl⟩,HS0.out⟩
  case round=>as_aux_lemma=>
   obtain ⟨u,v,rfl,rfl,hinv,hst⟩:=hrel
   have hu0:=hinv.lo;have huv:=hinv.uv;have hv0:=hinv.hi
   have hvb:v≤b:=by have:=FM.out;have:=F0.out;unfold SymEnds at*;omega
   by_cases huv2:u<v
   ·obtain ⟨c,hc0⟩:∃c,c=(u+v)/2:=⟨_,rfl⟩
    obtain ⟨uv,huv0⟩:∃uv,uv=u+v:=⟨_,rfl⟩
    obtain ⟨x,y,hxA,hyC,hx,hy,hcp,hcb,hpcb⟩:=sym_at (S:=S) F0.out.1 F0.out.2.1 F0.out.2.2.1 FM.out.1 FM.out.2.2.2 FM.out.2.2.1 (show s0≤c by omega) (show c<r0 by omega)
    obtain ⟨g,hg⟩:∃g,g=p-c:=⟨_,rfl⟩
    obtain ⟨c1,hc1⟩:∃c1,c1=c+1:=⟨_,rfl⟩
    rw [←hg] at hy hpcb
    have hij:decide (u<v)=true:=by simpa using huv2
    have u2:((u:Int)+(v:Int))=(uv:Int):=by omega
    have u3:=wrapN uv (by omega)
    have u4:=wrapU uv (by omega)
    have u5:((uv:Int)/2)=(c:Int):=by omega
    have u6:=wrapN c (by omega)
    have u7:=wrapU c (by omega)
    have u8:((c:Int)+1)=(c1:Int):=by omega
    have u9:=wrapN c1 (by omega)
    have t1:((p:Int)-(c:Int))=(g:Int):=by omega
    have t2:=wrapN g (by omega)
    obtain ⟨x0,x1,x2,x3⟩:=hst.at_.cell hx
    obtain ⟨y0,y1,y2,y3⟩:=hst.at_.cell hy
    have CMP:=hid (fun W (hb:Below wr.heap.size wr W)=>cmp_now HOK.out hst (show y∈A++C from by simp [hyC]) (show x∈A++C from by simp [hxA]) W hb)
    have HLT:=hid (ltE_cmp (ks:=ks) (HI.out x hxA y hyC))
    have HNT:=hid (ltE_not (ks:=ks) (HOK.out.el x (by simp [hxA])).2 (HOK.out.el y (by simp [hyC])).2 (HI.out x hxA y hyC))
    have hst2:=hid hst
    have q1:(0:Int)≤(c:Int):=by omega
    have q2:(c:Int)<(N:Int):=by omega
    have q3:(0:Int)≤(g:Int):=by omega
    have q4:(g:Int)<(N:Int):=by omega
    rw [hg] at hy
    have FG:=hid (show SymInv ks (P++A++C++S) p s0 r0 u v∧u≤c∧c<v∧(P++A++C++S)[c]? =some x∧(P++A++C++S)[p-c]? =some y∧c1=c+1 from ⟨hinv,by omega,by omega,hx,hy,hc1⟩)
    clear hu0 huv hv0 hvb huv2 hc0 huv0 hxA hyC hx hy hcp hcb hpcb hg hc1 hinv hst
    generalize cmpK ks y.l x.l=r at*
    have p0:=World.plus_cell x0;have p1:=World.plus_cell x1;have p2:=World.plus_cell x2;have p3:=World.plus_cell x3
    have p4:=World.plus_cell y0;have p5:=World.plus_cell y1;have p6:=World.plus_cell y2;have p7:=World.plus_cell y3
    go_wp2
    refine wp_region_plus (by kernel_rfl) (by kernel_rfl) ?_
    repeat (first|go_big_quiet_skip|(go_big_quiet_want;go_big_quiet_op;first|go_big_quiet_on|go_big_quiet_call (((go_at_call 25;exact Calls.plus_of (CMP.out _ (World.plus_below _ _)))))))
    refine wpQuiet_nil ?_
    rintro _ ⟨xq,rfl⟩
    have HST3:=hid (hst2.out.step (World.plus_below _ xq))
    clear p0 p1 p2 p3 p4 p5 p6 p7 x0 x1 x2 x3 y0 y1 y2 y3 hst2
    generalize World.plus wr xq=wr2 at*
    cases hcd:decide (r<0)
    ·have hc0:¬r<0:=of_decide_eq_false hcd
     have hxy:ltE ks x y:=HNT.out.1 (fun h=>hc0 (HLT.out.1 h))
     clear hcd hc0
     simp only [Bool.not_false]
     go_wp2
     go_roundw
     case rel=>exact ⟨c1,v,rfl,rfl,by rw [FG.out.2.2.2.2.2];exact FG.out.1.left FG.out.2.1 FG.out.2.2.1 FG.out.2.2.2.1 FG.out.2.2.2.2.1 hxy,HST3.out⟩
     case measure=>have:=FG.out;simp [intOf];omega
    ·have hc0:r<0:=of_decide_eq_true hcd
     have hyx:ltE ks y x:=HLT.out.2 hc0
     clear hcd hc0
     simp only [Bool.not_true]
     go_wp2
     go_roundw
     case rel=>exact ⟨u,c,rfl,rfl,FG.out.1.right FG.out.2.1 FG.out.2.2.1 FG.out.2.2.2.1 FG.out.2.2.2.2.1 hyx,HST3.out⟩
     case measure=>have:=FG.out;simp [intOf];omega
   ·obtain rfl:v=u:=by omega
    obtain ⟨e,he⟩:∃e,e=mid+m-v:=⟨_,rfl⟩
    have hinv2:=hinv
    rw [FM.out.2.2.1] at hinv2
    obtain ⟨A1,A2,C1,C2,hcut2,l1,l2,l3,l4,l5⟩:=symcut_of (n:=n) (fs:=fs) HPA.out HPC.out (fun x hx=>(HOK.out.el x hx).2) F0.out.1 F0.out.2.1 F0.out.2.2.1 (by have:=FA.out;omega) (by have:=FA.out;omega) FM.out.1 FM.out.2.2.2 hinv2 he
    have HT:=hid (show SortSt w0 wr B ((P++A1)++A2++C1++(C2++S)) from by have:=hst;rw [hcut2.a,hcut2.c] at this;simpa using this)
    have HCUT:=hid hcut2
    have HLEN:Hid (((P++A1)++A2++C1++(C2++S)).length=N):=by have:=HL.out;rw [hcut2.a,hcut2.c] at this;unfold Hid;simpa using this
    have FL:=hid (show a+A1.length=v∧m+C1.length=e∧a+A1.length+C1.length=mid∧mid+A2.length=e∧e+C2.length=b∧A.length=A1.length+A2.length∧C.length=C1.length+C2.length from ⟨l1,l2,l3,l4,l5,by rw [hcut2.a];simp,by rw [hcut2.c];simp⟩)
    have hij:decide (v<v)=false:=by simp
    have hvN:v≤N:=by omega
    have heN:e≤N:=by omega
    have v6:((nn:Int)-(v:Int))=(e:Int):=by have:=FM.out;omega
    have v6a:=wrapN e (by omega)
    have RO:=hid (fun h1 h2=>rotate_any (sortV q) w0 wr B cap (P++A1) A2 C1 (C2++S) v m e N HLEN.out (by have:=F0.out;have:=FL.out;simp;omega) (by have:=F0.out;have:=FL.out;omega) (by have:=FL.out;omega) h1 h2 hN hc hc2 HT.out)
    unfold sortV at RO
    have HV:=hid (And.intro hinv he)
    clear hinv hinv2 hst hcut2 l1 l2 l3 l4 l5 he hu0 huv hv0 huv2
    as_aux_lemma=>
     go_upto_region 39 with fail
     go_cut [24,185] (fun s24 s185 wx=>s24= .int .i64 (e:Nat)∧s185= .bool (decide (v<m)&&decide (m<e))∧wx=wr)
     case first=>as_aux_lemma=>
      cases h1:decide (v<m)
      ·go_wp2
       go_meet
       exact ⟨rfl,by rw [h1];rfl,rfl⟩
      ·go_wp2
       go_meet
       exact ⟨rfl,by rw [h1];rfl,rfl⟩
     case rest=>as_aux_lemma=>
      obtain ⟨rfl,rfl,rfl⟩:=hcut
      go_upto_if 185 with fail
      go_cut [24] (fun s24 wx=>s24= .int .i64 (e:Nat)∧SortSt w0 wx B ((P++A1)++C1++A2++(C2++S)))
      case first=>as_aux_lemma=>
       cases h1:(decide (v<m)&&decide (m<e))
       ·have h2:A2=[]∨C1=[]:=by
         rw [Bool.and_eq_false_iff] at h1
         rcases h1 with h1|h1
         ·left;exact List.eq_nil_of_length_eq_zero (by have:=of_decide_eq_false h1;have:=F0.out;have:=FL.out;omega)
         ·right;exact List.eq_nil_of_length_eq_zero (by have:=of_decide_eq_false h1;have:=F0.out;have:=FL.out;omega)
        have H2:=hid h2
        clear h2 h1
        go_wp2
        go_meet
        exact ⟨rfl,by have:=HT.out;rcases H2.out with rfl|rfl<;>simpa using this⟩
       ·rw [Bool.and_eq_true] at h1
        have C3:=hid (RO.out (by have:=of_decide_eq_true h1.1;have:=F0.out;have:=FL.out;omega) (by have:=of_decide_eq_true h1.2;have:=F0.out;have:=FL.out;omega))
        clear h1
        go_wp2_with (go_at_call 192;go_loud ((with_reducible refine C3.out.mono ?_);rintro e w1 ⟨rfl,hs1⟩;have HS1:=hid hs1;clear hs1))
        go_meet
        exact ⟨rfl,HS1.out⟩
      case rest=>as_aux_lemma=>
       obtain ⟨rfl,hst⟩:=hcut
       have HT2:=hid hst
       clear hst
       go_upto_region 41 with fail
       go_cut [24,199] (fun s24 s199 wx=>s24= .int .i64 (e:Nat)∧s199= .bool (decide (a<v)&&decide (v<mid))∧SortSt w0 wx B ((P++A1)++C1++A2++(C2++S)))
       case first=>as_aux_lemma=>
        cases h1:decide (a<v)
        ·go_wp2
         go_meet
         exact ⟨rfl,by rw [h1];rfl,HT2.out⟩
        ·go_wp2
         go_meet
         exact ⟨rfl,by rw [h1];rfl,HT2.out⟩
       case rest=>as_aux_lemma=>
        obtain ⟨rfl,rfl,hst⟩:=hcut
        have HT3:=hid hst
        clear hst HT2
        go_upto_if 199 with fail
        go_cut [24] (fun s24 wx=>s24= .int .i64 (e:Nat)∧∃M1,M1.Perm (A1++C1)∧M1.Pairwise (ltE ks)∧SortSt w0 wx B (P++M1++A2++C2++S))
        case first=>as_aux_lemma=>
         cases h1:(decide (a<v)&&decide (v<mid))
         ·have h2:A1=[]∨C1=[]:=by
           rw [Bool.and_eq_false_iff] at h1
           rcases h1 with h1|h1
           ·left;exact List.eq_nil_of_length_eq_zero (by have:=of_decide_eq_false h1;have:=F0.out;have:=FL.out;omega)
           ·right;exact List.eq_nil_of_length_eq_zero (by have:=of_decide_eq_false h1;have:=F0.out;have:=FL.out;omega)
          have H2:=hid h2
          clear h2 h1
          go_wp2
          go_meet
          refine ⟨rfl,A1++C1,List.Perm.refl _,?_,by have:=HT3.out;simpa using this⟩
          have sA:=HPA.out;have sC:=HPC.out
          rw [HCUT.out.a,List.pairwise_append] at sA
          rw [HCUT.out.c,List.pairwise_append] at sC
          rcases H2.out with h0|h0
          ·rw [h0];exact sC.1
          ·rw [h0,List.append_nil];exact sA.1
         ·rw [Bool.and_eq_true] at h1
          have C4:=hid (fun W hW=>HREC.out W P A1 C1 (A2++C2++S) a v mid (by have:=of_decide_eq_true h1.1;have:=FL.out;have:=F0.out;have:=FA.out;have:=FM.out;omega) (by have:=HLEN.out;simp at this ⊢;omega) F0.out.1 (by have:=FL.out;omega) (by have:=FL.out;omega) (by have:=of_decide_eq_true h1.1;have:=F0.out;have:=FL.out;omega) (by have:=of_decide_eq_true h1.2;have:=F0.out;have:=FL.out;omega)
           (fun x hx y hy=>HI.out x (by rw [HCUT.out.a];simp [hx]) y (by rw [HCUT.out.c];simp [hy])) (by have:=HPA.out;rw [HCUT.out.a,List.pairwise_append] at this;exact this.1) (by have:=HPC.out;rw [HCUT.out.c,List.pairwise_append] at this;exact this.1) (HOK.out.sub (fun x hx=>by rw [HCUT.out.a,HCUT.out.c];simp at hx ⊢;rcases hx with hx|hx<;>simp [hx])) hW)
          unfold sortV at C4
          clear h1
          go_wp2_with (go_at_call 129;go_loud ((with_reducible refine (C4.out _ (by have:=HT3.out;simpa using this)).mono ?_);rintro e w1 ⟨rfl,M1,hp1,hs1,hst1⟩;have HS1:=hid (And.intro hp1 (And.intro hs1 hst1));clear hp1 hs1 hst1))
          go_meet
          exact ⟨rfl,M1,HS1.out.1,HS1.out.2.1,by have:=HS1.out.2.2;simpa using this⟩
        case rest=>as_aux_lemma=>
         obtain ⟨rfl,M1,hp1,hs1,hst⟩:=hcut
         have HT4:=hid hst
         have HM1:=hid (And.intro hp1 hs1)
         have HML:Hid (M1.length=A1.length+C1.length):=by have:=hp1.length_eq;unfold Hid;simpa using this
         clear hst hp1 hs1 HT3
         go_upto_region 43 with fail
         go_cut [24,213] (fun s24 s213 wx=>s24= .int .i64 (e:Nat)∧s213= .bool (decide (mid<e)&&decide (e<b))∧SortSt w0 wx B (P++M1++A2++C2++S))
         case first=>as_aux_lemma=>
          cases h1:decide (mid<e)
          ·go_wp2
           go_meet
           exact ⟨rfl,by rw [h1];rfl,HT4.out⟩
          ·go_wp2
           go_meet
           exact ⟨rfl,by rw [h1];rfl,HT4.out⟩
         case rest=>as_aux_lemma=>
          obtain ⟨rfl,rfl,hst⟩:=hcut
          have HT5:=hid hst
          clear hst HT4
          cases h1:(decide (mid<e)&&decide (e<b))
          ·have h2:A2=[]∨C2=[]:=by
            rw [Bool.and_eq_false_iff] at h1
            rcases h1 with h1|h1
            ·left;exact List.eq_nil_of_length_eq_zero (by have:=of_decide_eq_false h1;have:=F0.out;have:=FL.out;omega)
            ·right;exact List.eq_nil_of_length_eq_zero (by have:=of_decide_eq_false h1;have:=F0.out;have:=FL.out;omega)
           have H2:=hid h2
           clear h2 h1
           go_wp2
           go_end0
           have sA:=HPA.out;have sC:=HPC.out
           rw [HCUT.out.a,List.pairwise_append] at sA
           rw [HCUT.out.c,List.pairwise_append] at sC
           have hj:=HCUT.out.join HPA.out HPC.out HM1.out.1 HM1.out.2 (List.Perm.refl (A2++C2)) (H2.out.elim (fun h0=>by rw [h0];exact sC.2.1) (fun h0=>by rw [h0,List.append_nil];exact sA.2.1))
           exact ⟨rfl,_,hj.1,hj.2,by have:=HT5.out;simpa using this⟩
          ·rw [Bool.and_eq_true] at h1
           have C5:=hid (fun W hW=>HREC.out W (P++M1) A2 C2 S mid e b (by have:=of_decide_eq_true h1.1;have:=FL.out;have:=F0.out;have:=FA.out;have:=FM.out;omega) (by have:=HLEN.out;have:=HML.out;simp at*;omega) (by have:=FL.out;have:=F0.out;have:=HML.out;simp;omega) (by have:=FL.out;omega) (by have:=FL.out;omega) (by have:=of_decide_eq_true h1.1;have:=F0.out;have:=FL.out;omega) (by have:=of_decide_eq_true h1.2;have:=F0.out;have:=FL.out;omega)
            (fun x hx y hy=>HI.out x (by rw [HCUT.out.a];simp [hx]) y (by rw [HCUT.out.c];simp [hy])) (by have:=HPA.out;rw [HCUT.out.a,List.pairwise_append] at this;exact this.2.1) (by have:=HPC.out;rw [HCUT.out.c,List.pairwise_append] at this;exact this.2.1) (HOK.out.sub (fun x hx=>by rw [HCUT.out.a,HCUT.out.c];simp at hx ⊢;rcases hx with hx|hx<;>simp [hx])) hW)
           unfold sortV at C5
           clear h1
           go_wp2_with (go_at_call 129;go_loud ((with_reducible refine (C5.out _ (by have:=HT5.out;simpa using this)).mono ?_);rintro e w1 ⟨rfl,M2,hp2,hs2,hst2⟩;have HS2:=hid (And.intro hp2 (And.intro hs2 hst2));clear hp2 hs2 hst2))
           go_end0
           have hj:=HCUT.out.join HPA.out HPC.out HM1.out.1 HM1.out.2 HS2.out.1 HS2.out.2.1
           exact ⟨rfl,_,hj.1,hj.2,by have:=HS2.out.2.2;simpa using this⟩
end Go.Proofs.YtejleplhmkmegaaGreatDoor
