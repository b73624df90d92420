/- Texts joined: OtH, OtI, RolB, RolP, RolC, RolD, OsF. -/
import Derived.Test.YtejleplhmkmegaaGreatDoorOj
import Derived.Test.YtejleplhmkmegaaGreatDoorOc
import Derived.Test.YtejleplhmkmegaaGreatDoorOd
import Derived.Deep.QuietTactic
import Derived.BigQuiet
import Derived.Below
import Derived.Test.YtejleplhmkmegaaGreatDoorOh
set_option linter.unusedVariables false
set_option linter.unusedSimpArgs false
namespace Go.Proofs.YtejleplhmkmegaaGreatDoor
theorem merge_all (q:QryV) (ks:List KeyD) (n:Nat) (fs:List Bool) (w0:World) (B cap N:Nat) (hN:N≤1000000) (hc:N≤cap) (hc2:cap≤maxLen):∀L,MergeRec q ks n fs w0 B cap N L
 |0=>fun W P A C S a m b hlt=>by omega
 |L+1=>fun W P A C S a m b hlt hl ha hm hb hA hC hi hsA hsC hok h=>by
  have ih:=merge_all q ks n fs w0 B cap N hN hc hc2 L
  by_cases h1:A.length=1
  ·obtain ⟨A',x,rfl,hA'⟩:=snoc_of (n:=0) h1
   obtain rfl:=List.eq_nil_of_length_eq_zero hA'
   exact merge_left q ks n fs w0 W B cap P C S x a m b N hl ha (by simpa using hm) hb hN hc hc2 (hi x (by simp)) hsC hok h
  ·by_cases h2:C.length=1
   ·obtain ⟨C',y,rfl,hC'⟩:=snoc_of (n:=0) h2
    obtain rfl:=List.eq_nil_of_length_eq_zero hC'
    exact merge_right q ks n fs w0 W B cap P A S y a m b N hl ha hm (by simpa using hb) h1 hN hc hc2 (fun x hx=>hi x hx y (by simp)) hsA hok h
   ·exact merge_step q ks n fs w0 W B cap P A C S a m b N hl ha hm hb (by omega) (by omega) hN hc hc2 hi hsA hsC hok h
     (fun W P' A' C' S' a' m' b' hlt'=>ih W P' A' C' S' a' m' b' (by omega))
inductive BlkS (ks:List KeyD) (k:Nat):List El→List El→Prop
 |last {L M:List El}:L.length≤k→M.Perm L→M.Pairwise (ltE ks)→BlkS ks k L M
 |cons {Q M R R':List El}:Q.length=k→M.Perm Q→M.Pairwise (ltE ks)→BlkS ks k R R'→BlkS ks k (Q++R) (M++R')
inductive FullS (ks:List KeyD) (k:Nat):List El→List El→Prop
 |nil:FullS ks k [] []
 |cons {Q M R R':List El}:Q.length=k→M.Perm Q→M.Pairwise (ltE ks)→FullS ks k R R'→FullS ks k (Q++R) (M++R')
theorem FullS.snoc {ks:List KeyD} {k:Nat} {E E' Q M:List El} (h:FullS ks k E E') (hl:Q.length=k) (hp:M.Perm Q) (hs:M.Pairwise (ltE ks)):FullS ks k (E++Q) (E'++M):=by
 induction h with
 |nil=>simpa using FullS.cons hl hp hs FullS.nil
 |cons h1 h2 h3 _ ih=>rw [List.append_assoc,List.append_assoc];exact FullS.cons h1 h2 h3 ih
theorem FullS.put {ks:List KeyD} {k:Nat} {E E' R R':List El} (h:FullS ks k E E') (hr:BlkS ks k R R'):BlkS ks k (E++R) (E'++R'):=by
 induction h with
 |nil=>exact hr
 |cons h1 h2 h3 _ ih=>rw [List.append_assoc,List.append_assoc];exact BlkS.cons h1 h2 h3 ih
theorem FullS.perm {ks:List KeyD} {k:Nat} {E E':List El} (h:FullS ks k E E'):E'.Perm E:=by
 induction h with
 |nil=>exact List.Perm.refl _
 |cons _ h2 _ _ ih=>exact h2.append ih
theorem BlkS.perm {ks:List KeyD} {k:Nat} {E E':List El} (h:BlkS ks k E E'):E'.Perm E:=by
 induction h with
 |last _ h2 _=>exact h2
 |cons _ h2 _ _ ih=>exact h2.append ih
theorem BlkS.one {ks:List KeyD} {k:Nat} {R R':List El} (h:BlkS ks k R R') (hl:R.length≤k):R'.Perm R∧R'.Pairwise (ltE ks):=by
 cases h with
 |last _ h2 h3=>exact ⟨h2,h3⟩
 |cons h1 h2 h3 h4=>
  rename_i Q M R0 R0'
  rw [List.length_append] at hl
  have h0:=List.eq_nil_of_length_eq_zero (show R0.length=0 by omega)
  have hp:=h4.perm
  rw [h0] at hp
  obtain rfl:=hp.eq_nil
  rw [h0]
  simpa using And.intro h2 h3
theorem BlkS.next {ks:List KeyD} {k:Nat} {R R':List El} (h:BlkS ks k R R') (hl:k≤R.length):∃Q M X X',R=Q++X∧R'=M++X'∧Q.length=k∧M.Perm Q∧M.Pairwise (ltE ks)∧BlkS ks k X X':=by
 cases h with
 |last h1 h2 h3=>exact ⟨_,_,[],[],by simp,by simp,by omega,h2,h3,.last (by simp) (List.Perm.refl _) List.Pairwise.nil⟩
 |cons h1 h2 h3 h4=>exact ⟨_,_,_,_,rfl,rfl,h1,h2,h3,h4⟩
set_option maxRecDepth 100000
open Go.ChangeShapes Go.WideShapes Go.ChangeAt Go.RowKit Go.Fl
def StablePost (w0:World) (B:Nat) (ks:List KeyD) (T:List El) (e:Ending) (w':World):Prop:=e= .returned (.tuple #[])∧∃M,M.Perm T∧M.Pairwise (ltE ks)∧SortSt w0 w' B M
set_option maxHeartbeats 8000000 in
theorem stable_any (q:QryV) (ks:List KeyD) (n:Nat) (fs:List Bool) (w0 w:World) (B cap N:Nat) (T:List El) (hl:T.length=N)
  (hN:N≤1000000) (hc:N≤cap) (hc2:cap≤maxLen) (hi:T.Pairwise (fun x y=>x.i<y.i)) (hok:CmpOk w0 B q ks n fs T) (h:SortSt w0 w B T):
  Calls Tryz.prog 68 #[.slice (some ⟨B,0,none⟩) N cap,.int .i64 N,sortV q] w (StablePost w0 B ks T):=by
 have HI:=hid hi;have HOK:=hid hok;have HL:=hid hl
 have HS0:=hid h
 have INS:=hid (fun W P Q S a b (hl:(P++Q++S).length=N) ha hb hQ hi hok h=>insertion_some q ks n fs w0 W B cap P Q S a b N hl ha hb hQ hN hc hc2 hi hok h)
 have INN:=hid (fun W P S a hN h=>insertion_none q ks w0 W B cap P S a N hN h)
 have MRG:=hid (fun W P A C S a m b (hl:(P++A++C++S).length=N) ha hm hb hA hC hi hsA hsC hok h=>merge_all q ks n fs w0 B cap N hN hc hc2 _ W P A C S a m b (Nat.lt_succ_self _) hl ha hm hb hA hC hi hsA hsC hok h)
 have e20:((20:Nat):Int)=20:=rfl
 unfold sortV at INS INN MRG ⊢
 clear h hi hok hl
 go_enter Tryz.func68,Tryz.ntmps68
 go_wp2
 go_loopw [7,8] (fun av bv wr=>∃(a b:Nat) (D D' R:List El),av= .int .i64 (a:Int)∧bv= .int .i64 (b:Int)∧b=a+20∧a=D.length∧D'.length=D.length∧T=D++R∧FullS ks 20 D D'∧SortSt w0 wr B (D'++R)) (fun av _ _=>N+1-(intOf av).toNat)
 case atStart=>exact ⟨0,20,[],[],T,rfl,rfl,rfl,rfl,rfl,rfl,FullS.nil,HS0.out⟩
 case round=>as_aux_lemma=>
  obtain ⟨a,b,D,D',R,rfl,rfl,hb,ha,hDD,hT,hF,hst⟩:=hrel
  have hlen:D.length+R.length=N:=by have:=HL.out;rw [hT] at this;simpa using this
  by_cases hbN:b≤N
  ·obtain ⟨Q,R2,rfl,h1,h2⟩:=part_at R 20 (by omega)
   obtain ⟨b2,hb2⟩:∃b2,b2=b+20:=⟨_,rfl⟩
   have d1:decide (b≤N)=true:=by simpa using hbN
   have v1:((b:Int)+20)=(b2:Int):=by omega
   have v2:=wrapN b2 (by omega)
   have C1:=hid (INS.out wr D' Q R2 a b (by have:=HL.out;rw [hT] at this;simp at this ⊢;omega) (by omega) (by omega) (by omega) (by have:=HI.out;rw [hT,List.pairwise_append,List.pairwise_append] at this;exact this.2.1.1) (HOK.out.sub (fun e he=>by rw [hT];simp [he])) (by simpa using hst))
   have FF:=hid (show b=a+20∧b2=b+20∧a=D.length∧D'.length=D.length∧T=D++(Q++R2)∧FullS ks 20 D D'∧Q.length=20∧b≤N from ⟨hb,hb2,ha,hDD,hT,hF,h1,hbN⟩)
   clear hb hb2 ha hDD hT hF h1 h2 hst hbN hlen
   go_wp2_with (go_at_call 128;go_loud ((with_reducible refine C1.out.mono ?_);rintro e w1 ⟨rfl,M,hp1,hs1,hst1⟩;have HS1:=hid (And.intro hp1 (And.intro hs1 hst1));clear hp1 hs1 hst1))
   go_roundw
   case rel=>
    obtain ⟨f1,f2,f3,f4,f5,f6,f7,f8⟩:=FF.out
    have hml:=HS1.out.1.length_eq
    exact ⟨b,b2,D++Q,D'++M,R2,rfl,rfl,f2,by simp;omega,by simp;omega,by rw [f5];simp,f6.snoc f7 HS1.out.1 HS1.out.2.1,by have:=HS1.out.2.2;simpa using this⟩
   case measure=>have:=FF.out;simp [intOf];omega
  ·have d1:decide (b≤N)=false:=by simpa using hbN
   have haN:a≤N:=by omega
   have hC1:Calls Tryz.prog 128 #[.slice (some ⟨B,0,none⟩) N cap,.int .i64 a,.int .i64 N,.func (.func 25) #[.agg q.cells] #[]] wr (InsPost w0 B ks D' R []):=by
    cases R with
    |nil=>
     obtain rfl:a=N:=by simp at hlen;omega
     exact INN.out wr D' [] a (by omega) (by simpa using hst)
    |cons x R'=>
     exact INS.out wr D' (x::R') [] a N (by have:=HL.out;rw [hT] at this;simp at this ⊢;omega) (by omega) (by omega) (by simp) (by have:=HI.out;rw [hT,List.pairwise_append] at this;exact this.2.1) (HOK.out.sub (fun e he=>by rw [hT];exact List.mem_append_right _ he)) (by simpa using hst)
   have C1:=hid hC1
   have FF:=hid (show b=a+20∧a=D.length∧D'.length=D.length∧T=D++R∧FullS ks 20 D D'∧R.length≤20 from ⟨hb,ha,hDD,hT,hF,by omega⟩)
   clear hb ha hDD hT hF hst hlen hC1 hbN
   go_wp2_with (go_at_call 128;go_loud ((with_reducible refine C1.out.mono ?_);rintro e w1 ⟨rfl,M,hp1,hs1,hst1⟩;have HS1:=hid (And.intro hp1 (And.intro hs1 hst1));clear hp1 hs1 hst1))
   obtain ⟨T1,hT1⟩:∃T1,T1=D'++M:=⟨_,rfl⟩
   have HB:Hid (BlkS ks 20 T T1∧SortSt w0 w1 B T1):=by
    obtain ⟨f1,f3,f4,f5,f6,f7⟩:=FF.out
    rw [hT1]
    exact ⟨by rw [f5];exact f6.put (.last f7 HS1.out.1 HS1.out.2.1),by have:=HS1.out.2.2;simpa using this⟩
   clear HS1 FF hT1 C1 INS INN
   go_loopw [6,7,8] (fun kv av bv wr=>∃(k:Nat) (T':List El),kv= .int .i64 (k:Int)∧20≤k∧k≤2*N+20∧BlkS ks k T T'∧SortSt w0 wr B T') (fun kv _ _ _=>N-(intOf kv).toNat)
   case atStart=>exact ⟨20,T1,rfl,Nat.le_refl _,by omega,HB.out.1,HB.out.2⟩
   case round=>as_aux_lemma=>
    obtain ⟨k,T',rfl,hk,hk2,hB,hst⟩:=hrel
    by_cases hkN:k<N
    ·have d2:decide (k<N)=true:=by simpa using hkN
     obtain ⟨k2,hkk⟩:∃k2,k2=2*k:=⟨_,rfl⟩
     have v1:((2:Int)*(k:Int))=(k2:Int):=by omega
     have v1':((k:Int)*2)=(k2:Int):=by omega
     have v2:=wrapN k2 (by omega)
     have FK:=hid (show 20≤k∧k<N∧k2=2*k from ⟨hk,hkN,hkk⟩)
     have HBB:=hid (And.intro hB hst)
     clear hB hst hk hk2 hkN hkk
     go_wp2
     go_loopw [7,8] (fun av bv wr=>∃(a b:Nat) (E E' R R':List El),av= .int .i64 (a:Int)∧bv= .int .i64 (b:Int)∧b=a+k2∧a=E.length∧T=E++R∧FullS ks k2 E E'∧BlkS ks k R R'∧SortSt w0 wr B (E'++R')) (fun av _ _=>N+1-(intOf av).toNat)
     case atStart=>exact ⟨0,k2,[],[],T,T',rfl,rfl,by omega,rfl,rfl,FullS.nil,HBB.out.1,HBB.out.2⟩
     case round=>as_aux_lemma=>
      obtain ⟨a,b,E,E',R,R',rfl,rfl,hb,ha,hT,hF,hR,hst⟩:=hrel
      have hlen:E.length+R.length=N:=by have:=HL.out;rw [hT] at this;simpa using this
      have hEl:=hF.perm.length_eq
      have hRl:=hR.perm.length_eq
      obtain ⟨m,hm⟩:∃m,m=a+k:=⟨_,rfl⟩
      have haN:a≤N:=by omega
      have v3:((a:Int)+(k:Int))=(m:Int):=by omega
      have v4:=wrapN m (by have:=FK.out;omega)
      by_cases hbN:b≤N
      ·have d3:decide (b≤N)=true:=by simpa using hbN
       have hkk:=FK.out
       obtain ⟨Q1,M1,X,X',rfl,rfl,l1,p1,s1,hX⟩:=hR.next (by omega)
       simp only [List.length_append] at hlen hRl
       obtain ⟨Q2,M2,Y,Y',rfl,rfl,l2,p2,s2,hY⟩:=hX.next (by omega)
       have lm1:=p1.length_eq;have lm2:=p2.length_eq
       obtain ⟨b2,hb2⟩:∃b2,b2=b+k2:=⟨_,rfl⟩
       have v5:((b:Int)+(k2:Int))=(b2:Int):=by omega
       have v6:=wrapN b2 (by omega)
       have hTI:=HI.out
       rw [hT,List.pairwise_append,List.pairwise_append] at hTI
       have C1:=hid (MRG.out wr E' M1 M2 Y' a m b (by have:=hY.perm.length_eq;simp at hlen ⊢;omega) (by omega) (by omega) (by omega) (by omega) (by omega) (fun x hx y hy=>hTI.2.1.2.2 x (p1.mem_iff.1 hx) y (by simp [p2.mem_iff.1 hy])) s1 s2
        (HOK.out.sub (fun e he=>by rw [hT];simp at he ⊢;exact he.elim (fun h=>by simp [p1.mem_iff.1 h]) (fun h=>by simp [p2.mem_iff.1 h]))) (by simpa using hst))
       have FF:=hid (show b=a+k2∧b2=b+k2∧a=E.length∧T=E++(Q1++(Q2++Y))∧FullS ks k2 E E'∧Q1.length=k∧Q2.length=k∧M1.Perm Q1∧M2.Perm Q2∧BlkS ks k Y Y'∧b≤N from ⟨hb,hb2,ha,hT,hF,l1,l2,p1,p2,hY,hbN⟩)
       clear hb hb2 ha hT hF hR hst hlen hEl hRl hm l1 l2 p1 p2 s1 s2 hX hY lm1 lm2 hTI hbN hkk
       go_wp2_with (go_at_call 129;go_loud ((with_reducible refine C1.out.mono ?_);rintro e w2 ⟨rfl,M,hp1,hs1,hst1⟩;have HS1:=hid (And.intro hp1 (And.intro hs1 hst1));clear hp1 hs1 hst1))
       go_roundw
       case rel=>
        obtain ⟨f1,f2,f3,f4,f5,f6,f7,f8,f9,f10,f11⟩:=FF.out
        exact ⟨b,b2,E++(Q1++Q2),E'++M,Y,Y',rfl,rfl,f2,by have:=FK.out;simp;omega,by rw [f4];simp,f5.snoc (by have:=FK.out;simp;omega) (HS1.out.1.trans (f8.append f9)) HS1.out.2.1,f10,by have:=HS1.out.2.2;simpa using this⟩
       case measure=>have:=FF.out;have:=FK.out;simp [intOf];omega
      ·have d3:decide (b≤N)=false:=by simpa using hbN
       have hkk:=FK.out
       by_cases hmN:m<N
       ·have d4:decide (m<N)=true:=by simpa using hmN
        obtain ⟨Q1,M1,X,X',rfl,rfl,l1,p1,s1,hX⟩:=hR.next (by omega)
        simp only [List.length_append] at hlen hRl
        obtain ⟨p2,s2⟩:=hX.one (by omega)
        have lm1:=p1.length_eq;have lm2:=p2.length_eq
        have hTI:=HI.out
        rw [hT,List.pairwise_append,List.pairwise_append] at hTI
        have C1:=hid (MRG.out wr E' M1 X' [] a m N (by simp at hlen ⊢;omega) (by omega) (by omega) (by omega) (by omega) (by omega) (fun x hx y hy=>hTI.2.1.2.2 x (p1.mem_iff.1 hx) y (p2.mem_iff.1 hy)) s1 s2
         (HOK.out.sub (fun e he=>by rw [hT];simp at he ⊢;exact he.elim (fun h=>by simp [p1.mem_iff.1 h]) (fun h=>by simp [p2.mem_iff.1 h]))) (by simpa using hst))
        have FF:=hid (show a=E.length∧T=E++(Q1++X)∧FullS ks k2 E E'∧(Q1++X).length≤k2∧M1.Perm Q1∧X'.Perm X from ⟨ha,hT,hF,by simp;omega,p1,p2⟩)
        clear hb ha hT hF hR hst hlen hEl hRl hm l1 p1 p2 s1 s2 hX lm1 lm2 hTI hbN hmN hkk
        go_wp2_with (go_at_call 129;go_loud ((with_reducible refine C1.out.mono ?_);rintro e w2 ⟨rfl,M,hp1,hs1,hst1⟩;have HS1:=hid (And.intro hp1 (And.intro hs1 hst1));clear hp1 hs1 hst1))
        go_roundw
        case rel=>
         obtain ⟨f1,f2,f3,f4,f5,f6⟩:=FF.out
         exact ⟨k2,E'++M,rfl,by have:=FK.out;omega,by have:=FK.out;omega,by rw [f2];exact f3.put (.last f4 (HS1.out.1.trans (f5.append f6)) HS1.out.2.1),by have:=HS1.out.2.2;simpa using this⟩
        case measure=>have:=FK.out;simp [intOf];omega
       ·have d4:decide (m<N)=false:=by simpa using hmN
        obtain ⟨p2,s2⟩:=hR.one (by omega)
        have FF:=hid (show T=E++R∧FullS ks k2 E E'∧R.length≤k2∧R'.Perm R∧R'.Pairwise (ltE ks)∧SortSt w0 wr B (E'++R') from ⟨hT,hF,by omega,p2,s2,hst⟩)
        clear hb ha hT hF hR hst hlen hEl hRl hm p2 s2 hbN hmN hkk
        go_wp2
        go_roundw
        case rel=>
         obtain ⟨f2,f3,f4,f5,f6,f7⟩:=FF.out
         exact ⟨k2,E'++R',rfl,by have:=FK.out;omega,by have:=FK.out;omega,by rw [f2];exact f3.put (.last f4 f5 f6),f7⟩
        case measure=>have:=FK.out;simp [intOf];omega
    ·have d2:decide (k<N)=false:=by simpa using hkN
     obtain ⟨p2,s2⟩:=hB.one (by have:=HL.out;omega)
     have FF:=hid (And.intro p2 (And.intro s2 hst))
     clear hB hst hk hk2 hkN p2 s2
     go_wp2
     go_end0
     exact ⟨rfl,T',FF.out.1,FF.out.2.1,FF.out.2.2⟩
set_option maxHeartbeats 8000000 in
theorem sortStable_any (q:QryV) (ks:List KeyD) (n:Nat) (fs:List Bool) (w0 w:World) (B cap N:Nat) (T:List El) (hl:T.length=N)
  (hN:N≤1000000) (hc:N≤cap) (hc2:cap≤maxLen) (hi:T.Pairwise (fun x y=>x.i<y.i)) (hok:CmpOk w0 B q ks n fs T) (h:SortSt w0 w B T):
  Calls Tryz.prog 32 #[.slice (some ⟨B,0,none⟩) N cap,sortV q] w (StablePost w0 B ks T):=by
 have C1:=hid (stable_any q ks n fs w0 w B cap N T hl hN hc hc2 hi hok h)
 unfold sortV at C1 ⊢
 clear h hi hok hl
 go_enter Tryz.func32,Tryz.ntmps32
 go_wp2_with (go_at_call 68;go_loud ((with_reducible refine C1.out.mono ?_);rintro e w2 ⟨rfl,M,hp1,hs1,hst1⟩;have HS1:=hid (And.intro hp1 (And.intro hs1 hst1));clear hp1 hs1 hst1))
 go_end0
 exact ⟨rfl,M,HS1.out.1,HS1.out.2.1,HS1.out.2.2⟩
theorem cmpB_neg:∀(a b:List UInt8),Lib.compareBytes b a= -Lib.compareBytes a b
 |[],[]=>rfl
 |[],_::_=>rfl
 |_::_,[]=>rfl
 |a::l,b::m=>by
  unfold Lib.compareBytes
  by_cases h1:a<b
  ·have h2:¬b<a:=by rw [UInt8.lt_iff_toNat_lt] at*;omega
   simp [h1,h2]
  ·by_cases h2:b<a
   ·simp [h1,h2]
   ·simp [h1,h2,cmpB_neg l m]
theorem cmpS_neg (a b:ByteArray):cmpS b a= -cmpS a b:=cmpB_neg _ _
theorem cmpV_neg (a b:ValD):cmpV b a= -cmpV a b:=by
 unfold cmpV
 cases a.nl<;>cases b.nl<;>simp [cmpS_neg a.s b.s]
theorem bytes_drop (s:ByteArray) (k:Nat) (h:k<s.size):s.data.toList.drop k=s[k]::s.data.toList.drop (k+1):=by
 have hl:k<s.data.toList.length:=by simpa using h
 rw [List.drop_eq_getElem_cons hl]
 rfl
set_option maxHeartbeats 2000000 in
theorem refAheadS_any (a b:ByteArray) (ha:a.size≤9223372036854775807) (hb:b.size≤9223372036854775807) (w:World):Calls Tryz.prog 235 #[.string a,.string b] w fun e w'=>e= .returned (.bool (decide (cmpS a b<0)))∧Below w.heap.size w w':=by
 obtain ⟨R,hR⟩:∃R,cmpS a b=R:=⟨_,rfl⟩
 rw [hR]
 have hR0:Lib.compareBytes (a.data.toList.drop 0) (b.data.toList.drop 0)=R:=hR
 have HR:=hid hR0
 clear hR hR0
 go_enter Tryz.func235,Tryz.ntmps235
 go_wp2
 go_loopw [5] (fun i wr=>∃k:Nat,k≤a.size∧k≤b.size∧i= .int .i64 k∧Lib.compareBytes (a.data.toList.drop k) (b.data.toList.drop k)=R∧Below w.heap.size w wr) (fun i _=>a.size-(intOf i).toNat)
 case atStart=>exact ⟨0,Nat.zero_le _,Nat.zero_le _,rfl,HR.out,Below.refl _ _⟩
 case round=>
  obtain ⟨k,hk,hkb,rfl,hrel,hbel⟩:=hrel
  have HREL:=hid hrel;have HBEL:=hid hbel
  clear hrel hbel
  by_cases hka:k<a.size
  ·by_cases hkb2:k<b.size
   ·have ea:=bytes_drop a k hka
    have eb:=bytes_drop b k hkb2
    have hstep:R=if a[k]<b[k] then -1 else if b[k]<a[k] then 1 else Lib.compareBytes (a.data.toList.drop (k+1)) (b.data.toList.drop (k+1)):=by rw [←HREL.out,ea,eb];simp only [Lib.compareBytes]
    simp only [UInt8.lt_iff_toNat_lt] at hstep
    have hx:=(a[k]'hka).toNat_lt
    have hy:=(b[k]'hkb2).toNat_lt
    have g1:(0:Int)≤(k:Int):=Int.natCast_nonneg _
    have g2:(k:Int)<(a.size:Int):=by omega
    have g3:(k:Int)<(b.size:Int):=by omega
    obtain ⟨x,hxe⟩:∃x,(a[k]'hka).toNat=x:=⟨_,rfl⟩
    obtain ⟨y,hye⟩:∃y,(b[k]'hkb2).toNat=y:=⟨_,rfl⟩
    rw [hxe,hye] at hstep
    rw [hxe] at hx
    rw [hye] at hy
    clear ea eb
    rcases Nat.lt_trichotomy x y with h|h|h
    ·rw [if_pos h] at hstep
     have HSTEP:=hid hstep
     have hq:((x:Int) !=(y:Int))=true:=by simp;omega
     have hq2:decide ((x:Int)<(y:Int))=true:=by simp;omega
     clear hstep
     go_wp2
     go_quiet (fail)
     go_wp2
     go_quiet (fail)
     go_wp2
     go_ret
     exact ⟨ret_bool (by rw [HSTEP.out];first|rfl|(simp;done)|(simp;omega)),by have:=HBEL.out;exact Gr⟩
    ·rw [if_neg (by omega),if_neg (by omega)] at hstep
     have HSTEP:=hid hstep.symm
     subst h
     clear hstep
     go_wp2
     go_quiet (fail)
     go_wp2
     go_roundw
     case rel=>exact ⟨k+1,hka,hkb2,by go_num,HSTEP.out,by have:=HBEL.out;exact Gr⟩
     case measure=>simp [intOf];omega
    ·rw [if_neg (by omega),if_pos h] at hstep
     have HSTEP:=hid hstep
     have hq:((x:Int) !=(y:Int))=true:=by simp;omega
     have hq2:decide ((x:Int)<(y:Int))=false:=by simp;omega
     clear hstep
     go_wp2
     go_quiet (fail)
     go_wp2
     go_quiet (fail)
     go_wp2
     go_ret
     exact ⟨ret_bool (by rw [HSTEP.out];first|rfl|(simp;done)|(simp;omega)),by have:=HBEL.out;exact Gr⟩
   ·obtain rfl:k=b.size:=by omega
    have eb:b.data.toList.drop b.size=[]:=List.drop_eq_nil_of_le (by simp)
    have ea:=bytes_drop a b.size hka
    have HR1:Hid (R=1):=by unfold Hid;rw [←HREL.out,ea,eb];rfl
    clear ea eb HREL
    go_wp2
    go_ret
    exact ⟨ret_bool (by rw [HR1.out];first|rfl|(simp;done)|(simp;omega)),by have:=HBEL.out;exact Gr⟩
  ·obtain rfl:k=a.size:=by omega
   have ea:a.data.toList.drop a.size=[]:=List.drop_eq_nil_of_le (by simp)
   by_cases hkb2:a.size<b.size
   ·have eb:=bytes_drop b a.size hkb2
    have HR1:Hid (R= -1):=by unfold Hid;rw [←HREL.out,ea,eb];rfl
    clear ea eb HREL
    go_wp2
    go_ret
    exact ⟨ret_bool (by rw [HR1.out];first|rfl|(simp;done)|(simp;omega)),by have:=HBEL.out;exact Gr⟩
   ·have eb:b.data.toList.drop a.size=[]:=List.drop_eq_nil_of_le (by simp;omega)
    have HR1:Hid (R=0):=by unfold Hid;rw [←HREL.out,ea,eb];rfl
    clear ea eb HREL
    go_wp2
    go_ret
    exact ⟨ret_bool (by rw [HR1.out];first|rfl|(simp;done)|(simp;omega)),by have:=HBEL.out;exact Gr⟩
theorem refAhead_any (a b:ValD) (ha:a.s.size≤9223372036854775807) (hb:b.s.size≤9223372036854775807) (w:World):Calls Tryz.prog 198 #[.agg #[.string a.s,.bool a.nl],.agg #[.string b.s,.bool b.nl]] w fun e w'=>e= .returned (.bool (decide (cmpV a b<0)))∧Below w.heap.size w w':=by
 obtain ⟨s,n⟩:=a
 obtain ⟨t,m⟩:=b
 cases n with
 |true=>
  cases m with
  |true=>
   have hc:Hid (decide (cmpV ⟨s,true⟩ ⟨t,true⟩<0)=false):=rfl
   rw [hc.out]
   go_enter Tryz.func198,Tryz.ntmps198
   go_wp2
   go_ret
   exact ⟨rfl,Gr⟩
  |false=>
   have hc:Hid (decide (cmpV ⟨s,true⟩ ⟨t,false⟩<0)=true):=rfl
   rw [hc.out]
   go_enter Tryz.func198,Tryz.ntmps198
   go_wp2
   go_ret
   exact ⟨rfl,Gr⟩
 |false=>
  cases m with
  |true=>
   have hc:Hid (decide (cmpV ⟨s,false⟩ ⟨t,true⟩<0)=false):=rfl
   rw [hc.out]
   go_enter Tryz.func198,Tryz.ntmps198
   go_wp2
   go_ret
   exact ⟨rfl,Gr⟩
  |false=>
   have hc:Hid (decide (cmpV ⟨s,false⟩ ⟨t,false⟩<0)=decide (cmpS s t<0)):=rfl
   rw [hc.out]
   have HC:=hid (fun W=>refAheadS_any s t ha hb W)
   generalize decide (cmpS s t<0)=r at*
   go_enter Tryz.func198,Tryz.ntmps198
   go_wp2_with (go_at_call 235;((with_reducible refine (HC.out _).mono ?_);rintro e w1 ⟨rfl,hb1⟩))
   go_ret
   exact ⟨rfl,Gr⟩
set_option maxHeartbeats 4000000 in
theorem refLess_any (va vb:Value) (a b:List ValD) (w:World) (ha:ValsSl w va a) (hb:ValsSl w vb b) (ta:∀v∈a,v.s.size≤9223372036854775807) (tb:∀v∈b,v.s.size≤9223372036854775807):
  Calls Tryz.prog 148 #[va,vb] w fun e w'=>e= .returned (.bool (lessL a b))∧Below w.heap.size w w':=by
 unfold lessL
 obtain ⟨ao,ca,rfl,h1,h2,_,hA⟩:=ValsSl.parts ha
 obtain ⟨bo,cb,rfl,h3,h4,_,hB⟩:=ValsSl.parts hb
 have HA:=hid hA;have HB:=hid hB
 have HTA:=hid (fun i (hi:i<a.length)=>ta a[i] (List.getElem_mem hi));have HTB:=hid (fun i (hi:i<b.length)=>tb b[i] (List.getElem_mem hi))
 obtain ⟨R,hR⟩:∃R,cmpL a b=R:=⟨_,rfl⟩
 rw [hR]
 have hR0:cmpL (a.drop 0) (b.drop 0)=R:=hR
 have HR:=hid hR0
 obtain ⟨la,hla⟩:∃n,a.length=n:=⟨_,rfl⟩
 obtain ⟨lb,hlb⟩:∃n,b.length=n:=⟨_,rfl⟩
 have HLA:=hid hla;have HLB:=hid hlb
 rw [hla] at h1 ⊢
 rw [hlb] at h3 ⊢
 unfold maxLen at h2 h4
 clear hA hB ha hb hR hR0 hla hlb ta tb
 go_enter Tryz.func148,Tryz.ntmps148
 go_wp2
 go_loopw [5] (fun i wr=>∃k:Nat,k≤la∧k≤lb∧i= .int .i64 k∧cmpL (a.drop k) (b.drop k)=R∧Below w.heap.size w wr) (fun i _=>la-(intOf i).toNat)
 case atStart=>exact ⟨0,Nat.zero_le _,Nat.zero_le _,rfl,HR.out,Below.refl _ _⟩
 case round=>
  obtain ⟨k,hk,hkb,rfl,hrel,hbel⟩:=hrel
  have HREL:=hid hrel;have HBEL:=hid hbel
  clear hrel hbel
  by_cases hka:k<la
  ·have hlen:k<a.length:=by rw [HLA.out];exact hka
   have ea:a.drop k=a[k]::a.drop (k+1):=List.drop_eq_getElem_cons hlen
   by_cases hkb2:k<lb
   ·obtain ⟨ba,oa,rfl,hca⟩:=HA.out (by omega)
    obtain ⟨c1,c2⟩:=hca k hlen
    have d1:=World.plus_cell (cell_step c1 HBEL.out)
    have d2:=World.plus_cell (cell_step c2 HBEL.out)
    have hlenb:k<b.length:=by rw [HLB.out];exact hkb2
    obtain ⟨bb,ob,rfl,hcb⟩:=HB.out (by omega)
    obtain ⟨c3,c4⟩:=hcb k hlenb
    have e1:=World.plus_cell (cell_step c3 HBEL.out)
    have e2:=World.plus_cell (cell_step c4 HBEL.out)
    have eb:b.drop k=b[k]::b.drop (k+1):=List.drop_eq_getElem_cons hlenb
    have hstep:R=if cmpV a[k] b[k]=0 then cmpL (a.drop (k+1)) (b.drop (k+1)) else cmpV a[k] b[k]:=by rw [←HREL.out,ea,eb];simp only [cmpL]
    have HC:=hid (fun W=>refAhead_any a[k] b[k] (HTA.out k hlen) (HTB.out k hlenb) W)
    have HD:=hid (fun W=>refAhead_any b[k] a[k] (HTB.out k hlenb) (HTA.out k hlen) W)
    rw [cmpV_neg a[k] b[k]] at HD
    have hci:=cmpV_is a[k] b[k]
    clear hcb hca c1 c2 c3 c4 ea eb
    generalize a[k]=x at*
    generalize b[k]=y at*
    generalize cmpV x y=r at*
    generalize x.s=xs at*
    generalize x.nl=xn at*
    generalize y.s=ys at*
    generalize y.nl=yn at*
    have g1:(0:Int)≤(k:Int):=Int.natCast_nonneg _
    have g2:(k:Int)<(la:Int):=by omega
    have g3:(k:Int)<(lb:Int):=by omega
    rcases hci with rfl|rfl|rfl
    ·rw [if_neg (by decide)] at hstep
     rw [show decide ((-1:Int)<0)=true from rfl] at HC
     have HSTEP:=hid hstep
     clear hstep
     go_wp2
     refine wp_region_plus (by kernel_rfl) (by kernel_rfl) ?_
     repeat (first|go_big_quiet_skip|(go_big_quiet_want;go_big_quiet_op;first|go_big_quiet_on|go_big_quiet_call (((go_at_call 198;exact Calls.plus_of (HC.out _))))))
     refine wpQuiet_nil ?_
     rintro _ ⟨xq,rfl⟩
     have hbq:=HBEL.out.step (World.plus_below wr xq)
     go_wp2
     go_ret
     exact ⟨ret_bool (by rw [HSTEP.out];first|rfl|(simp;done)|(simp;omega)),hbq⟩
    ·rw [if_pos rfl] at hstep
     rw [show decide ((0:Int)<0)=false from rfl] at HC
     rw [show decide (-(0:Int)<0)=false from rfl] at HD
     have HSTEP:=hid hstep.symm
     clear hstep
     go_wp2
     refine wp_region_plus (by kernel_rfl) (by kernel_rfl) ?_
     repeat (first|go_big_quiet_skip|(go_big_quiet_want;go_big_quiet_op;first|go_big_quiet_on|go_big_quiet_call (((go_at_call 198;exact Calls.plus_of (HC.out _))))))
     refine wpQuiet_nil ?_
     rintro _ ⟨xq,rfl⟩
     have hbq:=HBEL.out.step (World.plus_below wr xq)
     have f1:=World.plus_cell (d1 xq);have f2:=World.plus_cell (d2 xq);have f3:=World.plus_cell (e1 xq);have f4:=World.plus_cell (e2 xq)
     have HBQ:=hid hbq
     clear d1 d2 e1 e2 hbq
     generalize World.plus wr xq=W6 at*
     go_wp2
     refine wp_region_plus (by kernel_rfl) (by kernel_rfl) ?_
     repeat (first|go_big_quiet_skip|(go_big_quiet_want;go_big_quiet_op;first|go_big_quiet_on|go_big_quiet_call (((go_at_call 198;exact Calls.plus_of (HD.out _))))))
     refine wpQuiet_nil ?_
     rintro _ ⟨xq,rfl⟩
     have HB7:=hid (HBQ.out.step (World.plus_below W6 xq))
     go_wp2
     go_roundw
     case rel=>exact ⟨k+1,hka,hkb2,by go_num,HSTEP.out,HB7.out⟩
     case measure=>simp [intOf];omega
    ·rw [if_neg (by decide)] at hstep
     rw [show decide ((1:Int)<0)=false from rfl] at HC
     rw [show decide (-(1:Int)<0)=true from rfl] at HD
     have HSTEP:=hid hstep
     clear hstep
     go_wp2
     refine wp_region_plus (by kernel_rfl) (by kernel_rfl) ?_
     repeat (first|go_big_quiet_skip|(go_big_quiet_want;go_big_quiet_op;first|go_big_quiet_on|go_big_quiet_call (((go_at_call 198;exact Calls.plus_of (HC.out _))))))
     refine wpQuiet_nil ?_
     rintro _ ⟨xq,rfl⟩
     have hbq:=HBEL.out.step (World.plus_below wr xq)
     have f1:=World.plus_cell (d1 xq);have f2:=World.plus_cell (d2 xq);have f3:=World.plus_cell (e1 xq);have f4:=World.plus_cell (e2 xq)
     have HBQ:=hid hbq
     clear d1 d2 e1 e2 hbq
     generalize World.plus wr xq=W6 at*
     go_wp2
     refine wp_region_plus (by kernel_rfl) (by kernel_rfl) ?_
     repeat (first|go_big_quiet_skip|(go_big_quiet_want;go_big_quiet_op;first|go_big_quiet_on|go_big_quiet_call (((go_at_call 198;exact Calls.plus_of (HD.out _))))))
     refine wpQuiet_nil ?_
     rintro _ ⟨xq,rfl⟩
     have HB7:=hid (HBQ.out.step (World.plus_below W6 xq))
     go_wp2
     go_ret
     exact ⟨ret_bool (by rw [HSTEP.out];first|rfl|(simp;done)|(simp;omega)),HB7.out⟩
   ·obtain rfl:k=lb:=by omega
    have eb:b.drop k=[]:=List.drop_eq_nil_of_le (by rw [HLB.out];omega)
    have HR1:Hid (R=1):=by unfold Hid;rw [←HREL.out,ea,eb];rfl
    clear ea eb
    go_wp2
    go_ret
    exact ⟨ret_bool (by rw [HR1.out];first|rfl|(simp;done)|(simp;omega)),HBEL.out⟩
  ·obtain rfl:k=la:=by omega
   have ea:a.drop k=[]:=List.drop_eq_nil_of_le (by rw [HLA.out];omega)
   by_cases hkb2:k<lb
   ·have hlenb:k<b.length:=by rw [HLB.out];exact hkb2
    have eb:b.drop k=b[k]::b.drop (k+1):=List.drop_eq_getElem_cons hlenb
    have HR1:Hid (R= -1):=by unfold Hid;rw [←HREL.out,ea,eb];rfl
    clear ea eb
    go_wp2
    go_ret
    exact ⟨ret_bool (by rw [HR1.out];first|rfl|(simp;done)|(simp;omega)),HBEL.out⟩
   ·obtain rfl:k=lb:=by omega
    have eb:b.drop k=[]:=List.drop_eq_nil_of_le (by rw [HLB.out];omega)
    have HR1:Hid (R=0):=by unfold Hid;rw [←HREL.out,ea,eb];rfl
    clear ea eb
    go_wp2
    go_ret
    exact ⟨ret_bool (by rw [HR1.out];first|rfl|(simp;done)|(simp;omega)),HBEL.out⟩
end Go.Proofs.YtejleplhmkmegaaGreatDoor
namespace Go.Put
structure Rule (α:Type) where
 c:α→α→Int
 both:α→α→α
 P:α→Prop
 neg:∀a b,c b a= -c a b
 lt:∀a b d,c a b<0→c b d<0→c a d<0
 eq:∀a b d,c a b=0→c a d=c b d
 bc:∀a b d,c a b=0→c (both a b) d=c a d
 comm:∀a b,P a→P b→c a b=0→both a b=both b a
 assoc:∀a b d,P a→P b→P d→c a b=0→c a d=0→both (both a b) d=both a (both b d)
 keep:∀a b,P a→P b→c a b=0→P (both a b)
variable {α:Type} (R:Rule α)
def put:List α→α→List α
 |[],d=>[d]
 |x::xs,d=>if R.c x d<0 then x::put xs d else if R.c x d=0 then R.both x d::xs else d::x::xs
def All (l:List α):Prop:=∀x∈l,R.P x
theorem refl (a:α):R.c a a=0:=by have:=R.neg a a;omega
theorem put_mem {l:List α} {d y:α} (h:y∈put R l d):y=d∨(∃x∈l,y=x)∨∃x∈l,R.c x d=0∧y=R.both x d:=by
 induction l with
 |nil=>simp [put] at h;exact .inl h
 |cons x xs ih=>
  unfold put at h
  split at h
  ·rcases List.mem_cons.1 h with h|h
   ·exact .inr (.inl ⟨x,by simp,h⟩)
   ·rcases ih h with h|⟨z,hz,h⟩|⟨z,hz,h⟩
    ·exact .inl h
    ·exact .inr (.inl ⟨z,by simp [hz],h⟩)
    ·exact .inr (.inr ⟨z,by simp [hz],h⟩)
  ·split at h
   ·rename_i h0
    rcases List.mem_cons.1 h with h|h
    ·exact .inr (.inr ⟨x,by simp,h0,h⟩)
    ·exact .inr (.inl ⟨y,by simp [h],rfl⟩)
   ·rcases List.mem_cons.1 h with h|h
    ·exact .inl h
    ·exact .inr (.inl ⟨y,h,rfl⟩)
end Go.Put
namespace Go.Proofs.YtejleplhmkmegaaGreatDoor
set_option linter.unusedVariables false
set_option linter.unusedSimpArgs false
open Go.ChangeShapes Go.WideShapes Go.ChangeAt Go.RowKit
theorem cmpB_zero:∀(a b:List UInt8),Lib.compareBytes a b=0→a=b
 |[],[],_=>rfl
 |[],_::_,h=>by simp [Lib.compareBytes] at h
 |_::_,[],h=>by simp [Lib.compareBytes] at h
 |a::l,b::m,h=>by
  unfold Lib.compareBytes at h
  split at h
  ·cases h
  ·split at h
   ·cases h
   ·rename_i h1 h2
    have:a=b:=by
     rw [UInt8.lt_iff_toNat_lt] at h1 h2
     exact UInt8.toNat_inj.1 (by omega)
    rw [this,cmpB_zero l m h]
theorem cmpB_lt:∀(a b d:List UInt8),Lib.compareBytes a b<0→Lib.compareBytes b d<0→Lib.compareBytes a d<0
 |_,[],[],_,h=>by simp [Lib.compareBytes] at h
 |[],[],_::_,h,_=>by simp [Lib.compareBytes] at h
 |_::_,[],_,h,_=>by simp [Lib.compareBytes] at h
 |[],_::_,[],_,h=>by simp [Lib.compareBytes] at h
 |[],_::_,_::_,_,_=>by simp [Lib.compareBytes]
 |_::_,_::_,[],_,h=>by simp [Lib.compareBytes] at h
 |a::l,b::m,d::n,h1,h2=>by
  unfold Lib.compareBytes at h1 h2 ⊢
  simp only [UInt8.lt_iff_toNat_lt] at h1 h2 ⊢
  by_cases e1:a.toNat<b.toNat
  ·by_cases e2:b.toNat<d.toNat
   ·rw [if_pos (by omega)];decide
   ·by_cases e3:d.toNat<b.toNat
    ·rw [if_neg e2,if_pos e3] at h2;exact absurd h2 (by decide)
    ·rw [if_pos (by omega)];decide
  ·by_cases e3:b.toNat<a.toNat
   ·rw [if_neg e1,if_pos e3] at h1;exact absurd h1 (by decide)
   ·rw [if_neg e1,if_neg e3] at h1
    by_cases e2:b.toNat<d.toNat
    ·rw [if_pos (by omega)];decide
    ·by_cases e4:d.toNat<b.toNat
     ·rw [if_neg e2,if_pos e4] at h2;exact absurd h2 (by decide)
     ·rw [if_neg e2,if_neg e4] at h2
      rw [if_neg (by omega),if_neg (by omega)]
      exact cmpB_lt l m n h1 h2
theorem cmpS_zero {a b:ByteArray} (h:cmpS a b=0):a=b:=ByteArray.ext (by have:=cmpB_zero _ _ h;exact Array.toList_inj.1 this)
theorem cmpV_zero {a b:ValD} (h:cmpV a b=0):a.nl=b.nl∧(a.nl=false→a.s=b.s):=by
 unfold cmpV at h
 cases ha:a.nl<;>cases hb:b.nl<;>simp [ha,hb] at h ⊢
 exact cmpS_zero h
theorem cmpV_cong {a b:ValD} (d:ValD) (h:cmpV a b=0):cmpV a d=cmpV b d:=by
 obtain ⟨h1,h2⟩:=cmpV_zero h
 unfold cmpV
 cases ha:a.nl
 ·rw [ha] at h1
  rw [←h1,h2 ha]
 ·rw [ha] at h1
  rw [←h1]
  simp
theorem cmpV_lt (a b d:ValD) (h1:cmpV a b<0) (h2:cmpV b d<0):cmpV a d<0:=by
 unfold cmpV at*
 cases ha:a.nl<;>cases hb:b.nl<;>cases hd:d.nl<;>simp [ha,hb,hd] at h1 h2 ⊢
 exact cmpB_lt _ _ _ h1 h2
theorem cmpL_neg:∀(a b:List ValD),cmpL b a= -cmpL a b
 |[],[]=>rfl
 |[],_::_=>rfl
 |_::_,[]=>rfl
 |a::l,b::m=>by
  unfold cmpL
  rw [cmpV_neg a b]
  by_cases h:cmpV a b=0
  ·rw [if_pos (by omega),if_pos h,cmpL_neg l m]
  ·rw [if_neg (by omega),if_neg h]
theorem cmpL_cong:∀(a b d:List ValD),cmpL a b=0→cmpL a d=cmpL b d
 |[],[],_,_=>rfl
 |[],_::_,_,h=>by simp [cmpL] at h
 |_::_,[],_,h=>by simp [cmpL] at h
 |_::_,_::_,[],_=>rfl
 |a::l,b::m,d::n,h=>by
  unfold cmpL at h ⊢
  by_cases e:cmpV a b=0
  ·rw [if_pos e] at h
   rw [cmpV_cong d e,cmpL_cong l m n h]
  ·rw [if_neg e] at h
   exact absurd h e
theorem cmpL_lt:∀(a b d:List ValD),cmpL a b<0→cmpL b d<0→cmpL a d<0
 |_,[],[],_,h=>by simp [cmpL] at h
 |[],[],_::_,h,_=>by simp [cmpL] at h
 |_::_,[],_,h,_=>by simp [cmpL] at h
 |[],_::_,[],_,h=>by simp [cmpL] at h
 |[],_::_,_::_,_,_=>by simp [cmpL]
 |_::_,_::_,[],_,h=>by simp [cmpL] at h
 |a::l,b::m,d::n,h1,h2=>by
  unfold cmpL at h1 h2 ⊢
  by_cases e1:cmpV a b=0
  ·rw [if_pos e1] at h1
   rw [cmpV_cong d e1]
   by_cases e2:cmpV b d=0
   ·rw [if_pos e2] at h2 ⊢
    exact cmpL_lt l m n h1 h2
   ·rw [if_neg e2] at h2 ⊢
    exact h2
  ·rw [if_neg e1] at h1
   by_cases e2:cmpV b d=0
   ·rw [if_pos e2] at h2
    have e3:cmpV a d=cmpV a b:=by
     have h3:=cmpV_cong a e2
     have h4:=cmpV_neg b a
     have h5:=cmpV_neg d a
     omega
    rw [e3,if_neg e1]
    exact h1
   ·rw [if_neg e2] at h2
    have h3:=cmpV_lt a b d h1 h2
    rw [if_neg (by omega)]
    exact h3
theorem cmpL_zero:∀{a b:List ValD},(∀v∈a,okV v=true)→(∀v∈b,okV v=true)→cmpL a b=0→a=b
 |[],[],_,_,_=>rfl
 |[],_::_,_,_,h=>by simp [cmpL] at h
 |_::_,[],_,_,h=>by simp [cmpL] at h
 |a::l,b::m,ha,hb,h=>by
  unfold cmpL at h
  by_cases e:cmpV a b=0
  ·rw [if_pos e] at h
   have h1:=cmpL_zero (fun v hv=>ha v (by simp [hv])) (fun v hv=>hb v (by simp [hv])) h
   obtain ⟨h2,h3⟩:=cmpV_zero e
   have oa:=ha a (by simp)
   have ob:=hb b (by simp)
   obtain ⟨s,n⟩:=a
   obtain ⟨t,m'⟩:=b
   simp only at h2 h3
   subst h2
   cases n with
   |false=>rw [h3 rfl,h1]
   |true=>
    unfold okV isValB at oa ob
    simp only [Bool.and_eq_true,Bool.or_eq_true,Bool.not_true,Bool.false_eq_true,false_or,decide_eq_true_eq] at oa ob
    have e1:s=t:=by
     apply ByteArray.ext
     have h5:s.data.size=0:=oa.2
     have h6:t.data.size=0:=ob.2
     rw [Array.size_eq_zero_iff.1 h5,Array.size_eq_zero_iff.1 h6]
    rw [e1,h1]
  ·rw [if_neg e] at h
   exact absurd h e
structure CellD where
 t:Int
 l:List ValD
 n:Int
 sums:List Int
 mins:List Int
 maxs:List Int
def cmpC (a b:CellD):Int:=if a.t<b.t then -1 else if b.t<a.t then 1 else cmpL a.l b.l
def bothC (a b:CellD):CellD:=⟨a.t,a.l,a.n+b.n,List.zipWith (· + ·) a.sums b.sums,List.zipWith min a.mins b.mins,List.zipWith max a.maxs b.maxs⟩
def CellOk (m:Nat) (a:CellD):Prop:=(∀v∈a.l,okV v=true)∧a.sums.length=m∧a.mins.length=m∧a.maxs.length=m
theorem cmpC_zero {a b:CellD} (h:cmpC a b=0):a.t=b.t∧cmpL a.l b.l=0:=by
 unfold cmpC at h
 split at h
 ·cases h
 ·split at h
  ·cases h
  ·exact ⟨by omega,h⟩
theorem zip_comm (f:Int→Int→Int) (hf:∀x y,f x y=f y x):∀(a b:List Int),List.zipWith f a b=List.zipWith f b a
 |[],[]=>rfl
 |[],_::_=>rfl
 |_::_,[]=>rfl
 |x::l,y::m=>by simp only [List.zipWith_cons_cons];rw [hf x y,zip_comm f hf l m]
theorem zip_assoc (f:Int→Int→Int) (hf:∀x y z,f (f x y) z=f x (f y z)):∀(a b d:List Int),List.zipWith f (List.zipWith f a b) d=List.zipWith f a (List.zipWith f b d)
 |[],[],_=>by simp
 |[],_::_,_=>by simp
 |_::_,[],_=>by simp
 |_::_,_::_,[]=>by simp
 |x::l,y::m,z::n=>by simp only [List.zipWith_cons_cons];rw [hf x y z,zip_assoc f hf l m n]
def cellRule (m:Nat):Put.Rule CellD where
 c:=cmpC
 both:=bothC
 P:=CellOk m
 neg:=fun a b=>by
  unfold cmpC
  by_cases h1:a.t<b.t
  ·rw [if_neg (by omega),if_pos h1,if_pos h1];rfl
  ·by_cases h2:b.t<a.t
   ·rw [if_pos h2,if_neg h1,if_pos h2]
   ·rw [if_neg h2,if_neg h1,if_neg h1,if_neg h2,cmpL_neg]
 lt:=fun a b d h1 h2=>by
  unfold cmpC at*
  by_cases e1:a.t<b.t
  ·by_cases e2:b.t<d.t
   ·rw [if_pos (by omega)];decide
   ·by_cases e3:d.t<b.t
    ·rw [if_neg e2,if_pos e3] at h2;exact absurd h2 (by decide)
    ·rw [if_pos (by omega)];decide
  ·by_cases e3:b.t<a.t
   ·rw [if_neg e1,if_pos e3] at h1;exact absurd h1 (by decide)
   ·rw [if_neg e1,if_neg e3] at h1
    by_cases e2:b.t<d.t
    ·rw [if_pos (by omega)];decide
    ·by_cases e4:d.t<b.t
     ·rw [if_neg e2,if_pos e4] at h2;exact absurd h2 (by decide)
     ·rw [if_neg e2,if_neg e4] at h2
      rw [if_neg (by omega),if_neg (by omega)]
      exact cmpL_lt _ _ _ h1 h2
 eq:=fun a b d h=>by
  obtain ⟨h1,h2⟩:=cmpC_zero h
  unfold cmpC
  rw [h1,cmpL_cong _ _ _ h2]
 bc:=fun a b d h=>rfl
 comm:=fun a b ha hb h=>by
  obtain ⟨h1,h2⟩:=cmpC_zero h
  unfold bothC
  rw [h1,cmpL_zero ha.1 hb.1 h2,Int.add_comm,zip_comm (· + ·) (fun x y=>Int.add_comm x y),zip_comm min (fun x y=>Int.min_comm x y),zip_comm max (fun x y=>Int.max_comm x y)]
 assoc:=fun a b d ha hb hd h1 h2=>by
  unfold bothC
  simp only [Int.add_assoc]
  rw [zip_assoc (· + ·) (fun x y z=>Int.add_assoc x y z),zip_assoc min (fun x y z=>Int.min_assoc x y z),zip_assoc max (fun x y z=>Int.max_assoc x y z)]
 keep:=fun a b ha hb h=>by
  refine ⟨ha.1,?_,?_,?_⟩
  ·unfold bothC;simp [ha.2.1,hb.2.1]
  ·unfold bothC;simp [ha.2.2.1,hb.2.2.1]
  ·unfold bothC;simp [ha.2.2.2,hb.2.2.2]
def wcells (n:Int):List Value:=[.int .i64 (hiW n),.int .u64 (loW n)]
theorem wcells_len (n:Int):(wcells n).length=2:=rfl
def WidesSl (w:World) (v:Value) (l:List Int):Prop:=SlAt w v l.length 2 (l.flatMap wcells)
theorem WidesSl.below {w w':World} {v:Value} {l:List Int} (h:WidesSl w v l) (hb:Below w.heap.size w w'):WidesSl w' v l:=SlAt.below h hb
theorem WidesSl.own {w:World} {base:Nat} {e:TypeId} {v:Value} {n:Nat} {l:List Int} (h:w.ownsRow base e 2 v n (l.flatMap wcells)):WidesSl w v l:=by
 have:=h.1
 rw [flat_len 2 _ wcells_len] at this
 obtain rfl:l.length=n:=by omega
 exact SlAt.own h
theorem wides_at {l:List Int} {i:Nat} (hi:i<l.length):(l.flatMap wcells)[i*2]? =some (.int .i64 (hiW l[i]))∧(l.flatMap wcells)[i*2+1]? =some (.int .u64 (loW l[i])):=
 ⟨(flat_at 2 _ wcells_len l i 0 (by decide) hi).trans rfl,(flat_at 2 _ wcells_len l i 1 (by decide) hi).trans rfl⟩
theorem WidesSl.parts {w:World} {v:Value} {l:List Int} (h:WidesSl w v l):∃ao cap,v= .slice ao l.length cap∧l.length≤cap∧cap≤maxLen∧(ao=none→cap=0)∧
  (0<l.length→∃b off,ao=some ⟨b,off,none⟩∧∀i (hi:i<l.length),w.cell? ⟨b,off+i*2,none⟩=some (.int .i64 (hiW l[i]))∧w.cell? ⟨b,off+i*2+1,none⟩=some (.int .u64 (loW l[i]))):=by
 obtain ⟨h0,ao,cap,rfl,h1,h2,h3,h⟩:=h
 refine ⟨ao,cap,rfl,h1,h2,h3,fun hl=> ?_⟩
 obtain ⟨b,off,rfl,hc⟩:=h (by rw [h0];omega)
 exact ⟨b,off,rfl,fun i hi=>⟨hc _ _ (wides_at hi).1,hc _ _ (wides_at hi).2⟩⟩
def ElemsSl {α:Type} (n:Nat) (R:World→List Value→α→Prop) (w:World) (v:Value) (l:List α):Prop:=
 ∃ao cap,v= .slice ao l.length cap∧l.length≤cap∧cap≤maxLen∧(ao=none→cap=0)∧
  (0<l.length→∃b off,ao=some ⟨b,off,none⟩∧∀i (hi:i<l.length),∃cs:List Value,cs.length=n∧R w cs l[i]∧∀j u,cs[j]? =some u→w.cell? ⟨b,off+i*n+j,none⟩=some u)
theorem ElemsSl.below {α:Type} {n:Nat} {R:World→List Value→α→Prop} (hR:∀(w w':World) (cs:List Value) (x:α),R w cs x→Below w.heap.size w w'→R w' cs x) {w w':World} {v:Value} {l:List α} (h:ElemsSl n R w v l) (hb:Below w.heap.size w w'):ElemsSl n R w' v l:=by
 obtain ⟨ao,cap,rfl,h1,h2,h3,h⟩:=h
 refine ⟨ao,cap,rfl,h1,h2,h3,fun hl=> ?_⟩
 obtain ⟨b,off,rfl,hc⟩:=h hl
 refine ⟨b,off,rfl,fun i hi=> ?_⟩
 obtain ⟨cs,hl,hr,hcell⟩:=hc i hi
 exact ⟨cs,hl,hR _ _ _ _ hr hb,fun j u hj=>cell_step (hcell j u hj) hb⟩
theorem ElemsSl.shape {α:Type} {n:Nat} {R:World→List Value→α→Prop} {w:World} {v:Value} {l:List α} (h:ElemsSl n R w v l):∃ao cap,v= .slice ao l.length cap∧l.length≤cap∧cap≤maxLen∧(ao=none→cap=0):=by
 obtain ⟨ao,cap,h1,h2,h3,h4,_⟩:=h
 exact ⟨ao,cap,h1,h2,h3,h4⟩
theorem ElemsSl.nil {α:Type} {n:Nat} {R:World→List Value→α→Prop} (w:World):ElemsSl (α:=α) n R w (.slice none 0 0) []:=⟨none,0,rfl,Nat.le_refl _,by unfold maxLen;omega,fun _=>rfl,fun h=>by simp at h⟩
structure RowD where
 t:Int
 l:List ValD
 xs:List Int
def RowIs (w:World) (cs:List Value) (r:RowD):Prop:=∃vl vn,cs=[.int .i64 r.t,vl,vn]∧ValsSl w vl r.l∧IntsSl w vn r.xs
theorem RowIs.below {w w':World} {cs:List Value} {r:RowD} (h:RowIs w cs r) (hb:Below w.heap.size w w'):RowIs w' cs r:=by
 obtain ⟨vl,vn,h1,h2,h3⟩:=h
 exact ⟨vl,vn,h1,h2.below hb,h3.below hb⟩
def RowsSl:=ElemsSl 3 RowIs
theorem RowsSl.below {w w':World} {v:Value} {l:List RowD} (h:RowsSl w v l) (hb:Below w.heap.size w w'):RowsSl w' v l:=ElemsSl.below (R:=RowIs) (fun _ _ _ _ h hb=>RowIs.below h hb) h hb
def CellIs (w:World) (cs:List Value) (c:CellD):Prop:=∃vl vs vm vx,cs=[.int .i64 c.t,vl,.int .i64 c.n,vs,vm,vx]∧ValsSl w vl c.l∧WidesSl w vs c.sums∧IntsSl w vm c.mins∧IntsSl w vx c.maxs
theorem CellIs.below {w w':World} {cs:List Value} {c:CellD} (h:CellIs w cs c) (hb:Below w.heap.size w w'):CellIs w' cs c:=by
 obtain ⟨vl,vs,vm,vx,h1,h2,h3,h4,h5⟩:=h
 exact ⟨vl,vs,vm,vx,h1,h2.below hb,h3.below hb,h4.below hb,h5.below hb⟩
def CellsSl:=ElemsSl 6 CellIs
theorem CellsSl.below {w w':World} {v:Value} {l:List CellD} (h:CellsSl w v l) (hb:Below w.heap.size w w'):CellsSl w' v l:=ElemsSl.below (R:=CellIs) (fun _ _ _ _ h hb=>CellIs.below h hb) h hb
theorem CellsSl.at {w:World} {ao:Option Addr} {cap:Nat} {l:List CellD} (h:CellsSl w (.slice ao l.length cap) l) {i:Nat} (hi:i<l.length):∃b off vl vs vm vx,ao=some ⟨b,off,none⟩∧ValsSl w vl l[i].l∧WidesSl w vs l[i].sums∧IntsSl w vm l[i].mins∧IntsSl w vx l[i].maxs∧
  w.cell? ⟨b,off+i*6,none⟩=some (.int .i64 l[i].t)∧w.cell? ⟨b,off+i*6+1,none⟩=some vl∧w.cell? ⟨b,off+i*6+2,none⟩=some (.int .i64 l[i].n)∧w.cell? ⟨b,off+i*6+3,none⟩=some vs∧w.cell? ⟨b,off+i*6+4,none⟩=some vm∧w.cell? ⟨b,off+i*6+5,none⟩=some vx:=by
 obtain ⟨ao',cap',e,_,_,_,h⟩:=h
 simp only [Value.slice.injEq] at e
 obtain ⟨rfl,_,rfl⟩:=e
 obtain ⟨b,off,rfl,hc⟩:=h (by omega)
 obtain ⟨cs,_,⟨vl,vs,vm,vx,rfl,h2,h3,h4,h5⟩,hcell⟩:=hc i hi
 exact ⟨b,off,vl,vs,vm,vx,rfl,h2,h3,h4,h5,hcell 0 _ rfl,hcell 1 _ rfl,hcell 2 _ rfl,hcell 3 _ rfl,hcell 4 _ rfl,hcell 5 _ rfl⟩
set_option maxRecDepth 100000
open Go.Joins Go.Deep Go.Fl
def KindsN:Nat→FilD→Prop
 |0,_=>True
 |d+1,.mk k _ _ _ _ l=>I64 k∧∀f∈l,KindsN d f
theorem KindsN.down:∀{d:Nat} {f:FilD},KindsN (d+1) f→KindsN d f
 |0,_,_=>trivial
 |d+1,.mk k _ _ _ _ l,h=>⟨h.1,fun f hf=>(h.2 f hf).down⟩
theorem KindsN.le {d e:Nat} {f:FilD} (h:KindsN e f) (hde:d≤e):KindsN d f:=by
 induction e with
 |zero=>(obtain rfl:d=0:=(by omega));exact h
 |succ e ih=>
  by_cases hd:d=e+1
  ·subst hd;exact h
  ·exact ih h.down (by omega)
theorem kinds_cut:∀(d e:Nat) (f:FilD),KindsN d f→KindsN d (cutF e f)
 |0,_,_,_=>trivial
 |d+1,0,.mk k n ws fr till l,h=>⟨h.1,fun f hf=>by cases hf⟩
 |d+1,e+1,.mk k n ws fr till l,h=>⟨h.1,fun f hf=>by
  obtain ⟨x,hx,rfl⟩:=List.mem_map.1 hf
  exact kinds_cut d e x (h.2 x (List.mem_of_mem_take hx))⟩
theorem kinds_few {d:Nat} {f:FilD} (h:KindsN d f):KindsN d (fewF f):=by
 have h2:=kinds_cut d 7 f h
 unfold fewF
 split
 ·cases d with
  |zero=>trivial
  |succ d=>
   cases hc:cutF 7 f with
   |mk k n ws fr till l=>
    rw [hc] at h2
    exact ⟨h2.1,fun f hf=>by cases hf⟩
 ·exact h2
section
variable {H:Type} {enc:TypeId×Value→H} {W:World} {base:Nat}
theorem filter_of2:∀(fuel:Nat) {cs:List Value} {y:DataW H×List MemPlace},DataW.trod enc Tryz.prog W 0 (fun _=>true) true fuel 29 cs=some y→∃f,FilS (fun _=>True) W (fuel+1) cs f∧∀e,KindsN e f:=by
 intro fuel
 induction fuel using Nat.strongRecOn with
 |ind fuel ih=>
 intro cs y h
 obtain ⟨_,_,_,_,hl,_,_⟩:=DataW.trod_struct Tryz.underlying29 h
 have hC:Tryz.prog.cellsOf 29=6:=by kernel_rfl
 rw [hC] at hl
 obtain ⟨n0,y0,_,h0⟩:=trod_field Tryz.underlying29 h 0 3 0 1 (by kernel_rfl) (by kernel_rfl)
 obtain ⟨n1,y1,_,h1⟩:=trod_field Tryz.underlying29 h 1 9 1 1 (by kernel_rfl) (by kernel_rfl)
 obtain ⟨n2,y2,_,h2⟩:=trod_field Tryz.underlying29 h 2 23 2 1 (by kernel_rfl) (by kernel_rfl)
 obtain ⟨n3,y3,_,h3⟩:=trod_field Tryz.underlying29 h 3 26 3 2 (by kernel_rfl) (by kernel_rfl)
 obtain ⟨n4,y4,hn4,h4⟩:=trod_field Tryz.underlying29 h 4 27 5 1 (by kernel_rfl) (by kernel_rfl)
 clear h
 match cs,hl with
 |[a,b,c,d,e,g],_=>
  simp only [List.drop_succ_cons,List.drop_zero,List.take_succ_cons,List.take_zero] at h0 h1 h2 h3 h4
  obtain ⟨k,e0,_,q0⟩:=DataW.trod_int Tryz.underlying3 h0
  have hk64:=i64_of_wf q0
  obtain ⟨s,e1,_,hs⟩:=DataW.trod_string Tryz.underlying9 h1
  obtain ⟨ws,w1,w2⟩:=open_strs Tryz.underlying23 h2
  obtain ⟨z0,z1,_,_,_,g0,g1⟩:=trod_struct2 Tryz.underlying26 h3
  obtain ⟨fr,e3,_⟩:=DataW.trod_int Tryz.underlying2 g0
  obtain ⟨till,e4,_⟩:=DataW.trod_int Tryz.underlying2 g1
  have cI:Tryz.prog.cellsOf 2=1:=by kernel_rfl
  rw [cI] at e3 e4
  simp at e0 e1 e3 e4
  subst e0 e1 e3 e4
  have hsz:s.size≤9223372036854775807:=by unfold maxLen at hs;omega
  rcases DataW.trod_slice Tryz.underlying27 h4 with ⟨hg,_⟩|⟨A,len,cap,elems,rest,n',hn',hg,_,_,hlc,hcm,hel,hit,_,_⟩
  ·simp at hg
   subst hg
   refine ⟨.mk k s ws fr till [],?_,fun e=>by cases e with|zero=>trivial|succ e=>exact ⟨hk64,fun f hf=>by cases hf⟩⟩
   unfold FilS
   exact ⟨_,_,[],rfl,hsz,SlS.all w1,w2,rfl,by simp,⟨rfl,none,0,rfl,Nat.le_refl _,by simp,fun _=>rfl,fun h=>by simp at h⟩,fun i hi=>by simp at hi⟩
  ·simp at hg
   subst hg
   rw [hC] at hit
   have key:∀i,i<len→∃p:List Value×FilD,p.1.length=6∧(∀j u,p.1[j]? =some u→W.cell? ((A.add (i*6)).add j)=some u)∧FilS (fun _=>True) W fuel p.1 p.2∧∀e,KindsN e p.2:=fun i hi=>by
    have h5:=hit i hi
    rw [List.getElem?_eq_getElem (by omega)] at h5
    obtain ⟨cs,hc,ht'⟩:=Option.bind_eq_some_iff.1 h5
    obtain ⟨_,hcl,hat⟩:=World.cells?_some hc
    obtain ⟨f,hf,hkf⟩:=ih n' (by omega) ht'
    refine ⟨(cs,f),hcl,fun j u hj=> ?_,?_,hkf⟩
    ·rw [hat j (by have:=(List.getElem?_eq_some_iff.1 hj).1;dsimp only at this;omega)];exact hj
    ·have:=hf.deeper
     rwa [show n'+1+1=fuel by omega] at this
   haveI:Inhabited (List Value×FilD):=⟨([],.mk 0 ⟨#[]⟩ [] 0 0 [])⟩
   obtain ⟨F,hF⟩:=choose_lt key
   obtain ⟨b,off,sp⟩:=A
   by_cases h0:0<len
   ·have hs:sp=none:=by
     obtain ⟨p1,p2,_⟩:=hF 0 h0
     have:=p2 0 _ (List.getElem?_eq_getElem (by omega))
     have:=spot_none this
     simpa [Addr.add] using this
    subst hs
    have hr6:∀r∈(List.range len).map (fun i=>(F i).1),r.length=6:=fun r hr=>by
     obtain ⟨i,hi,rfl⟩:=List.mem_map.1 hr
     exact (hF i (List.mem_range.1 hi)).1
    obtain ⟨c1,c2⟩:=flatten_cells hr6 (w:=W) (b:=b) (off:=off) (fun i r hr j u hj=>by
     obtain ⟨hi,he⟩:=List.getElem?_eq_some_iff.1 hr
     simp at hi
     simp at he
     subst he
     have h6:=(hF i hi).2.1 j u hj
     have e1:((⟨b,off,none⟩:Addr).add (i*6)).add j=⟨b,off+(i*6+j),none⟩:=by
      have ea:∀o m:Nat,(⟨b,o,none⟩:Addr).add m=⟨b,o+m,none⟩:=fun o m=>by unfold Addr.add;split<;>simp_all
      rw [ea,ea,Nat.add_assoc]
     rw [e1] at h6
     exact h6)
    refine ⟨.mk k s ws fr till ((List.range len).map fun i=>(F i).2),?_,fun e=>by
     cases e with
     |zero=>trivial
     |succ e=>exact ⟨hk64,fun f hf=>by
       obtain ⟨i,hi,rfl⟩:=List.mem_map.1 hf
       exact (hF i (List.mem_range.1 hi)).2.2.2 e⟩⟩
    unfold FilS
    refine ⟨_,_,(List.range len).map (fun i=>(F i).1),rfl,hsz,SlS.all w1,w2,by simp,hr6,⟨by rw [c1];simp,_,cap,by simp,by simp;exact hlc,hcm,(fun h=>by cases h),fun _=>⟨b,off,rfl,trivial,c2⟩⟩,fun i hi r hr=> ?_⟩
    simp at hi
    simp [hi] at hr
    subst hr
    simpa using (hF i hi).2.2.1
   ·obtain rfl:len=0:=by omega
    refine ⟨.mk k s ws fr till [],?_,fun e=>by cases e with|zero=>trivial|succ e=>exact ⟨hk64,fun f hf=>by cases hf⟩⟩
    unfold FilS
    exact ⟨_,_,[],rfl,hsz,SlS.all w1,w2,rfl,by simp,⟨rfl,_,cap,rfl,hlc,hcm,(fun h=>by cases h),fun h=>by simp at h⟩,fun i hi=>by simp at hi⟩
theorem open_query2 {v:Value} {d:DataW H} {p:List MemPlace} (hv:Value.okWide Tryz.prog W .any base 33 v) (h:DataW.Trod enc Tryz.prog W 0 (fun _=>true) true 33 v d p):
  ∃(q:QryV) (dq:QryD),v= .agg q.cells∧QryIs W q dq∧QryOk dq∧∀e,KindsN e dq.wher:=by
 obtain ⟨cs,rfl,hsz⟩:=okWide_struct Tryz.underlying33 hv
 have hC:Tryz.prog.cellsOf 33=14:=by kernel_rfl
 rw [hC] at hsz
 obtain ⟨fuel,h⟩:=h
 obtain ⟨n0,y0,_,h0⟩:=trod_field Tryz.underlying33 h 0 22 0 1 (by kernel_rfl) (by kernel_rfl)
 obtain ⟨n1,y1,_,h1⟩:=trod_field Tryz.underlying33 h 1 23 1 1 (by kernel_rfl) (by kernel_rfl)
 obtain ⟨n2,y2,_,h2⟩:=trod_field Tryz.underlying33 h 2 3 2 1 (by kernel_rfl) (by kernel_rfl)
 obtain ⟨n3,y3,_,h3⟩:=trod_field Tryz.underlying33 h 3 24 3 1 (by kernel_rfl) (by kernel_rfl)
 obtain ⟨n4,y4,_,h4⟩:=trod_field Tryz.underlying33 h 4 2 4 1 (by kernel_rfl) (by kernel_rfl)
 obtain ⟨n5,y5,_,h5⟩:=trod_field Tryz.underlying33 h 5 29 5 6 (by kernel_rfl) (by kernel_rfl)
 obtain ⟨n6,y6,_,h6⟩:=trod_field Tryz.underlying33 h 6 30 11 1 (by kernel_rfl) (by kernel_rfl)
 obtain ⟨n7,y7,_,h7⟩:=trod_field Tryz.underlying33 h 7 31 12 1 (by kernel_rfl) (by kernel_rfl)
 obtain ⟨n8,y8,_,h8⟩:=trod_field Tryz.underlying33 h 8 3 13 1 (by kernel_rfl) (by kernel_rfl)
 clear h hv
 obtain ⟨l⟩:=cs
 simp only [Value.cells] at h0 h1 h2 h3 h4 h5 h6 h7 h8
 match l,hsz with
 |[c0,c1,c2,c3,c4,c5,c6,c7,c8,c9,c10,c11,c12,c13],_=>
  simp only [List.drop_succ_cons,List.drop_zero,List.take_succ_cons,List.take_zero] at h0 h1 h2 h3 h4 h5 h6 h7 h8
  obtain ⟨la,a1,a2⟩:=open_aggs Tryz.underlying22 h0
  obtain ⟨lb,b1,b2⟩:=open_strs Tryz.underlying23 h1
  obtain ⟨mode,e2,_,q2⟩:=DataW.trod_int Tryz.underlying3 h2
  obtain ⟨ls,s1,s2⟩:=open_sets Tryz.underlying24 h3
  obtain ⟨every,e4,_,q4⟩:=DataW.trod_int Tryz.underlying2 h4
  obtain ⟨f,hf,hkf⟩:=filter_of2 _ h5
  obtain ⟨lh,g1,g2⟩:=open_conds Tryz.underlying30 h6
  obtain ⟨lo,o1,o2⟩:=open_keys Tryz.underlying31 h7
  obtain ⟨limit,e8,_,q8⟩:=DataW.trod_int Tryz.underlying3 h8
  simp at e2 e4 e8
  subst e2 e4 e8
  obtain ⟨aa,ac,rfl,_⟩:=SlAt.shape a1
  obtain ⟨ba,bc,rfl,_⟩:=SlAt.shape b1
  obtain ⟨vs,hvl,vs1,vs2⟩:=s1
  obtain ⟨sa,sc,rfl,_⟩:=SlAt.shape vs1
  obtain ⟨k,n,aw,lw,cw,fr,till,al,ll,cl,he⟩:=hf.six
  simp only [List.cons.injEq,and_true] at he
  obtain ⟨rfl,rfl,rfl,rfl,rfl,rfl⟩:=he
  obtain ⟨ha,hc,rfl,_⟩:=SlAt.shape g1
  obtain ⟨oa,oc,rfl,_⟩:=SlAt.shape o1
  exact ⟨⟨aa,_,ac,ba,_,bc,mode,sa,_,sc,every,k,n,aw,lw,cw,fr,till,al,ll,cl,ha,_,hc,oa,_,oc,limit⟩,⟨la,lb,mode,ls,every,f,lh,lo,limit⟩,rfl,
   ⟨a1,b1,rfl,⟨vs,hvl,vs1,vs2⟩,rfl,⟨_,hf⟩,g1,o1,rfl⟩,⟨a2,b2,i64_of_wf q2,s2,i64_of_wf q4,g2,o2,i64_of_wf q8⟩,hkf⟩
end
end Go.Proofs.YtejleplhmkmegaaGreatDoor
