/- Texts joined: RtH, RtI, RtJ, RtK, RtL, RtM, RtQ, RtS, RtN, RtT, RtU, RtV, RtW, RtX, OrA, OrB. -/
import Derived.Test.YtejleplhmkmegaaGreatDoorOd
import Derived.Test.YtejleplhmkmegaaGreatDoorOc
import Derived.Laws.IdiomStrings
import Derived.Test.YtejleplhmkmegaaGreatDoorOb
import Derived.Lib.Walk
import Derived.Lib.ItoaMem
import Derived.Shelf.Strconv.Itoa1
import Derived.Shelf.Strconv.Itoa2
import Derived.Shelf.Strconv.Itoa3
import Derived.Maps.Own
import Derived.Maps.OwnOps
import Derived.Maps.RangeWalk
import Derived.Laws.FloatArith
import Derived.Lib.SmallJoins
import Derived.Test.YtejleplhmkmegaaGreatDoorOa
set_option linter.unusedVariables false
set_option linter.unusedSimpArgs false
namespace Go.Proofs.YtejleplhmkmegaaGreatDoor
set_option maxRecDepth 100000
open Go.ChangeShapes Go.WideShapes Go.ChangeAt Go.RowKit Go.Fl
attribute [local go_sem] frombits_lit Int.toNat_natCast
theorem row_at {w:World} {base:Nat} {e:TypeId} {v:Value} {n:Nat} {xs:List Value} (h:w.ownsRow base e 1 v n xs) (h0:0<n):
  ∃b o cap,v= .slice (some ⟨b,o,none⟩) n cap∧n≤cap∧∀j u,xs[j]? =some u→w.cell? ⟨b,o+j,none⟩=some u:=by
 have hk:=h
 rcases h.2 with ⟨rfl,h0'⟩|⟨g,cap,cur,rfl,_,_,h3,h4,_,_⟩
 ·omega
 ·refine ⟨g,0,cap,rfl,h3,fun j u hj=> ?_⟩
  have hjl:j<xs.length:=(List.getElem?_eq_some_iff.1 hj).1
  rw [show 0+j=j from Nat.zero_add j,hk.cellAt j (by rw [←h.1];exact hjl),hj]
theorem digI_get {A j:Nat} (hj:j<128):(digI (dig 128 A))[j]? =some (.int .i64 ((bitAt A j:Nat):Int)):=by
 unfold digI bitAt
 rw [List.getElem?_map,dig_get 128 A j hj,if_pos hj]
 rfl
set_option maxHeartbeats 2000000 in
theorem rof_zero (n:Nat) (hn:0<n) (hn2:n≤20000000000) (w:World):
  Calls Tryz.prog 75 #[(Value.agg #[.int .i64 (hiW (0)),.int .u64 (loW (0))]),.int .i64 (n:Int)] w fun e w'=>e= .returned (.tuple #[.float .f64 0,.int .i64 0])∧Below w.heap.size w w':=by
 have HD:=hid (fun W=>rdigits_any 0 (by decide) W)
 rw [show hiW 0=0 by decide,show loW 0=0 by decide] at HD ⊢
 have HG:=hid (fun j (hj:j<128)=>(show (digI (dig 128 (Int.natAbs 0)))[j]? =some (.int .i64 0) by
  rw [digI_get hj]
  unfold bitAt
  simp))
 generalize digI (dig 128 (Int.natAbs 0))=DD at*
 have t1:(0:Int).tdiv (n:Int)=0:=by simp
 have t2:(0:Int).tmod (n:Int)=0:=by simp
 have hn':¬(n:Int)=0:=by omega
 go_enter Tryz.func75,Tryz.ntmps75
 go_wp2_with (go_at_call 142;go_loud ((with_reducible refine (HD.out _).mono ?_);rintro e w1 ⟨v,rfl,hown,hw1⟩;obtain ⟨b,o,cap,rfl,hcap,hc⟩:=row_at hown (by decide)))
 have HC:=hid (fun j hj=>hc j _ (HG.out j hj))
 clear hc hown HG HD
 go_loopw [7,8,9,10] (fun m r e i wr=>∃k:Nat,k≤401∧m= .int .u64 0∧r= .int .i64 0∧i= .int .i64 (k:Int)∧wr=w1) (fun _ _ _ i _=>402-(intOf i).toNat)
 case atStart=>exact ⟨0,by omega,rfl,rfl,rfl,rfl⟩
 case round=>
  obtain ⟨k,hk,rfl,rfl,rfl,rfl⟩:=hrel
  rcases Nat.lt_or_ge k 128 with h1|h1
  ·have e0:=HC.out k h1
   go_wp2
   go_roundw
   case rel=>exact ⟨k+1,by omega,rfl,rfl,by go_num,trivial⟩
   case measure=>simp [intOf];omega
  ·have h1':128≤(k:Int):=by omega
   by_cases h2:k=401
   ·subst h2
    go_wp2
    ((show bodyPost _ _ _ _ _ _);refine bodyPost_ret (by simp only [results,Tryz.results75];go_simp;try rfl) rfl ?_)
    exact ⟨rfl,Gr⟩
   ·have h2':k<401:=by omega
    go_wp2
    go_roundw
    case rel=>exact ⟨k+1,by omega,rfl,rfl,by go_num,trivial⟩
    case measure=>simp [intOf];omega
set_option maxHeartbeats 4000000 in
theorem rof_main (a:Int) (ha:I128 a) (ha0:a≠0) (n:Nat) (hn:0<n) (hn2:n≤20000000000) (w:World):
  Calls Tryz.prog 75 #[(Value.agg #[.int .i64 (hiW (a)),.int .u64 (loW (a))]),.int .i64 (n:Int)] w fun e w'=>e= .returned (.tuple #[.float .f64 (Ieee.double.word (decide (a<0)) (ofR a.natAbs n)),.int .i64 0])∧Below w.heap.size w w':=by
 obtain ⟨A,hA⟩:∃A,a.natAbs=A:=⟨_,rfl⟩
 have hA0:0<A:=by omega
 have hA2:A<2^128:=by omega
 have HD:=hid (fun W=>rdigits_any a ha W)
 have HN:=hid (fun W=>rneg_any (hiW a) (loW a) W)
 rw [hi_neg ha] at HN
 rw [hA] at HD ⊢
 clear hA ha ha0
 generalize decide (a<0)=neg at*
 generalize hiW a=H at*;generalize loW a=L at*
 obtain ⟨s1,s2,s3,s4⟩:=theI_spec hA0 hA2 hn (show n<2^35 by omega)
 have s5:=quo_top hA0 hA2 hn (show n<2^35 by omega)
 obtain ⟨I,hI⟩:∃I,theI A n=I:=⟨_,rfl⟩
 have hof:ofR A n=(1202-I)*2^52+(quo A n I+(upB A n I).toNat):=by unfold ofR;rw [hI]
 rw [hI] at s1 s2 s3 s4 s5
 rw [hof]
 obtain ⟨Z,hZ⟩:∃Z,Ieee.double.word neg ((1202-I)*2^52+(quo A n I+(upB A n I).toNat))=Z:=⟨_,rfl⟩
 rw [hZ]
 have HZ:=hid hZ
 clear hZ
 have HG:=hid (fun j (hj:j<128)=>digI_get (A:=A) hj)
 have HQ0:Hid (quo A n 0=0∧topA A 0 % n=0):=by
  unfold Hid
  rw [quo_topA,topA_zero hA2]
  simp
 have HQS:=hid (fun k=>quo_last (A:=A) hn k)
 have HUP:=hid (upB_is (A:=A) hn I)
 have HBT:=hid (fun k=>bitAt_lt A k)
 have HLL:=hid (fun k=>lastA_lt (A:=A) (i:=k) hn)
 have HLE:Hid (leftA A I≤128):=by
  unfold Hid leftA
  have:=sumD_le A (127-I)
  split<;>omega
 have HS1:=hid s1;have HS2:=hid s2;have HS5:=hid s5
 clear hI hof hA0 hA2 s1 s2 s5
 generalize digI (dig 128 A)=DD at*
 have hn':¬(n:Int)=0:=by omega
 go_enter Tryz.func75,Tryz.ntmps75
 go_wp2_with (go_at_call 142;go_loud ((with_reducible refine (HD.out _).mono ?_);rintro e w1 ⟨v,rfl,hown,hw1⟩;obtain ⟨b,o,cap,rfl,hcap,hc⟩:=row_at hown (by decide)))
 have HC:=hid (fun j hj=>hc j _ (HG.out j hj))
 have s0:(w.alloc (.cells #[.int .i64 H,.int .u64 L] 126)).cell? ⟨w.heap.size,0,none⟩=some (.int .i64 H):=by go_simp
 have s1:(w.alloc (.cells #[.int .i64 H,.int .u64 L] 126)).cell? ⟨w.heap.size,1,none⟩=some (.int .u64 L):=by go_simp
 have e0:=cell_step s0 hw1;have e1:=cell_step s1 hw1
 clear hc hown HG HD s0 s1
 go_loopw [7,8,9,10] (fun m r e i wr=>∃k:Nat,k≤I∧m= .int .u64 (quo A n k:Nat)∧r= .int .i64 (topA A k % n:Nat)∧(0<k→e= .int .i64 (128-(k:Int)))∧i= .int .i64 (k:Int)∧wr=w1) (fun _ _ _ i _=>I-(intOf i).toNat)
 case atStart=>exact ⟨0,by omega,by rw [HQ0.out.1];rfl,by rw [HQ0.out.2];rfl,fun h=>absurd h (by omega),rfl,rfl⟩
 case round=>
  obtain ⟨k,hk,rfl,rfl,he,rfl,rfl⟩:=hrel
  have hmod:topA A k % n<n:=Nat.mod_lt _ hn
  obtain ⟨q1,q2⟩:=HQS.out k
  have q3:=HBT.out k
  have q4:lastA A n k=2*(topA A k % n)+bitAt A k:=rfl
  have q5:=HLL.out k
  obtain ⟨X,hX⟩:∃X,lastA A n k=X:=⟨_,rfl⟩
  rw [hX] at q1 q2 q4 q5
  have HX:=hid hX
  obtain ⟨r,hr⟩:∃r,topA A k % n=r:=⟨_,rfl⟩
  have HR:=hid hr
  rw [hr] at hmod q4 ⊢
  by_cases hlt:k<I
  ·have hm:quo A n k<4503599627370496:=HS2.out k hlt
   obtain ⟨m,hM⟩:∃m,quo A n k=m:=⟨_,rfl⟩
   rw [hM] at hm q1 ⊢
   obtain ⟨c,hc⟩:∃c,X/n=c:=⟨_,rfl⟩
   have hc2:c<2:=by rw [←hc];exact Nat.div_lt_of_lt_mul (by omega)
   obtain ⟨t,ht⟩:∃t,X % n=t:=⟨_,rfl⟩
   rw [hc] at q1;rw [ht] at q2
   obtain ⟨mi,hmi⟩:∃mi:Int,(m:Int)=mi:=⟨_,rfl⟩
   have hm1:0≤mi:=by omega
   have hm2:mi<4503599627370496:=by omega
   have Q1:Hid (((quo A n (k+1):Nat):Int)=2*mi+(c:Int)):=by unfold Hid;omega
   rw [hmi]
   have t1:(X:Int).tdiv (n:Int)=(c:Int):=by rw [←hc];rfl
   have t2:(X:Int).tmod (n:Int)=(t:Int):=by rw [←ht];rfl
   have t3:(X:Int)/(n:Int)=(c:Int):=by rw [←hc];rfl
   have t4:(X:Int) % (n:Int)=(t:Int):=by rw [←ht];rfl
   have Q2:=hid q2
   have hk2:k<215:=by omega
   clear he hX hr hM hc ht q1 q2 hk hm hmi
   rcases Nat.lt_or_ge k 128 with h1|h1
   ·have ec:=HC.out k h1
    obtain ⟨d,hd⟩:∃d,bitAt A k=d:=⟨_,rfl⟩
    rw [hd] at ec q3 q4
    clear hd
    have p1:2*(r:Int)+(d:Int)=(X:Int):=by omega
    clear q4
    go_wp2
    go_roundw
    case rel=>exact ⟨k+1,by omega,by rw [Q1.out],by rw [Q2.out],by go_num,by go_num,trivial⟩
    case measure=>simp [intOf];omega
   ·have h1':128≤(k:Int):=by omega
    have hd:bitAt A k=0:=by unfold bitAt;rw [if_neg (by omega)]
    rw [hd] at q4
    have p1:2*(r:Int)=(X:Int):=by omega
    clear hd q4
    go_wp2
    go_roundw
    case rel=>exact ⟨k+1,by omega,by rw [Q1.out],by rw [Q2.out],by go_num,by go_num,trivial⟩
    case measure=>simp [intOf];omega
  ·obtain rfl:k=I:=by omega
   have he2:=he (by omega)
   subst he2
   have m1:=HS1.out;have m2:=HS5.out
   have hup:=HUP.out
   rw [HX.out] at hup
   have HLF:=hid (show leftA A k=if k<128 then sumD A (127-k) else 0 from rfl)
   have hle:=HLE.out
   have hz:=HZ.out
   obtain ⟨lf,hlf⟩:∃lf,leftA A k=lf:=⟨_,rfl⟩
   rw [hlf] at hle hup HLF
   obtain ⟨u,hu⟩:∃u,upB A n k=u:=⟨_,rfl⟩
   rw [hu] at hz hup
   have hu1:u.toNat≤1:=by cases u<;>decide
   have B1:=fun (h:quo A n k+u.toNat<2^53) W=>rbits_any neg (1203-k) (quo A n k+u.toNat) (by omega) (by omega) (by omega) h W
   rw [show 1203-k-1=1202-k by omega,hz,show ((1203-k:Nat):Int)-1075=128-(k:Int) by omega] at B1
   have B2:quo A n k+u.toNat=2^53→∀W,Calls Tryz.prog 144 #[.bool neg,.int .u64 4503599627370496,.int .i64 (129-(k:Int))] W fun e w'=>e= .returned (.int .u64 (Z:Int))∧w'=W:=fun h W=>by
    have:=rbits_any neg (1204-k) (2^52) (by omega) (by omega) (by decide) (by decide) W
    rw [show (1204-k-1)*2^52+2^52=(1202-k)*2^52+(quo A n k+u.toNat) by rw [h];omega,hz,show ((1204-k:Nat):Int)-1075=129-(k:Int) by omega] at this
    exact this
   obtain ⟨mi,hmi⟩:∃mi:Int,((quo A n k:Nat):Int)=mi:=⟨_,rfl⟩
   have hm1:4503599627370496≤mi:=by omega
   have hm2:mi<9007199254740992:=by omega
   have hB:((quo A n k+u.toNat:Nat):Int)=mi+(u.toNat:Int):=by omega
   rw [hB] at B1
   replace B1:=hid (fun (h:mi+(u.toNat:Int)<9007199254740992) W=>B1 (by omega) W)
   replace B2:=hid (fun (h:mi+(u.toNat:Int)=9007199254740992) W=>B2 (by omega) W)
   have hodd:decide (quo A n k % 2=1)=decide (mi % 2=1):=by rw [Bool.eq_iff_iff];simp;omega
   rw [hodd] at hup
   rw [hmi]
   replace hup:=hid hup
   have Q4:=hid q4
   clear he hX hr m1 m2 q1 q2 hk hlt hB hodd hmi hz hu HUP HS1 HS2 HS5 HZ HLE HQ0 HQS q4
   obtain ⟨V,rfl⟩:∃V,V=wr:=⟨_,rfl⟩
   go_upto_if 68 with fail
   go_cut [11,12] (fun s11 s12 wx=>s11= .int .i64 (X:Int)∧s12= .int .i64 (lf:Int)∧wx=V)
   case first=>
    clear B1 B2 hup
    rcases Nat.lt_or_ge k 128 with h1|h1
    ·have ec:=HC.out k h1
     have q4:=Q4.out
     obtain ⟨d,hd⟩:∃d,bitAt A k=d:=⟨_,rfl⟩
     rw [hd] at ec q3 q4
     clear hd
     have p1:2*(r:Int)+(d:Int)=(X:Int):=by omega
     have p2:128-(128-(k:Int))=(k:Int):=by omega
     have p3:IntKind.i64.wrap (128-(128-(k:Int))+1)=((k+1:Nat):Int):=by simp only [IntKind.wrap_i64];omega
     have hlf2:sumD A (127-k)=lf:=by have:=HLF.out;rw [if_pos h1] at this;exact this.symm
     have HL2:=hid hlf2
     clear q4 HLF hlf2
     go_wp2
     go_loopw [12,13] (fun l i wr=>∃j S:Nat,k+1≤j∧j≤128∧l= .int .i64 (S:Int)∧i= .int .i64 (j:Int)∧S+sumD A (128-j)=lf∧wr=V) (fun _ i _=>128-(intOf i).toNat)
     case atStart=>exact ⟨k+1,0,by omega,by omega,rfl,by go_num,by rw [←HL2.out,Nat.zero_add];congr 1;omega,rfl⟩
     case round=>
      obtain ⟨j,S,hj1,hj2,rfl,rfl,hS,rfl⟩:=hrel
      rcases Nat.lt_or_ge j 128 with h2|h2
      ·have ej:=HC.out j h2
       have hSS:S+(bitAt A j+sumD A (127-j))=lf:=by
        rw [←hS]
        unfold bitAt
        rw [if_pos h2,show 128-j=127-j+1 by omega,sumD]
       obtain ⟨d2,hd2⟩:∃d2,bitAt A j=d2:=⟨_,rfl⟩
       rw [hd2] at ej hSS
       have HSS:=hid hSS
       have hS2:S≤128:=by omega
       have hd3:d2≤128:=by omega
       clear hS hSS hd2
       go_wp2
       go_roundw
       case rel=>exact ⟨j+1,S+d2,by omega,by omega,by go_num,by go_num,by have:=HSS.out;rw [show 128-(j+1)=127-j by omega];omega,trivial⟩
       case measure=>simp [intOf];omega
      ·have h3:128≤(j:Int):=by omega
       have hS':S=lf:=by rw [show 128-j=0 by omega,sumD] at hS;omega
       subst hS'
       clear hS
       go_wp2
       go_meet
       case rel=>exact ⟨rfl,rfl,rfl⟩
    ·have h1':128≤(k:Int):=by omega
     have hlf2:lf=0:=by have:=HLF.out;rw [if_neg (by omega)] at this;exact this
     have hd:bitAt A k=0:=by unfold bitAt;rw [if_neg (by omega)]
     have q4:=Q4.out
     rw [hd] at q4
     have p1:2*(r:Int)=(X:Int):=by omega
     subst hlf2
     clear hd q4 HLF
     go_wp2
     go_meet
     case rel=>exact ⟨by rw [p1],rfl,rfl⟩
   case rest=>
    obtain ⟨rfl,rfl,rfl⟩:=hcut
    clear HC HBT HLL HX HR Q4 HLF
    rcases Nat.lt_trichotomy n X with h|h|h
    ·have hu:u=true:=by rw [hup.out];simp [h]
     subst hu
     have h':(n:Int)<(X:Int):=by omega
     simp only [Bool.toNat_true,Int.natCast_one] at B1 B2
     rcases Int.lt_or_le (mi+1) 9007199254740992 with hb|hb
     ·have BB:=hid (fun W=>B1.out hb W)
      have hb':¬mi+1=9007199254740992:=by omega
      clear B1 B2 hup
      go_wp2_with (first
       |(go_at_call 145;go_loud ((with_reducible refine (HN.out _).mono ?_);rintro e w3 ⟨rfl,hw3⟩))
       |(go_at_call 144;go_loud ((with_reducible refine (BB.out _).mono ?_);rintro e w4 ⟨rfl,rfl⟩)))
      ((show bodyPost _ _ _ _ _ _);refine bodyPost_ret (by simp only [results,Tryz.results75];go_simp;try rfl) rfl ?_)
      exact ⟨rfl,Gr⟩
     ·have hb':mi+1=9007199254740992:=by omega
      have BB:=hid (fun W=>B2.out hb' W)
      have p5:128-(k:Int)+1=129-(k:Int):=by omega
      clear B1 B2 hup
      go_wp2_with (first
       |(go_at_call 145;go_loud ((with_reducible refine (HN.out _).mono ?_);rintro e w3 ⟨rfl,hw3⟩))
       |(go_at_call 144;go_loud ((with_reducible refine (BB.out _).mono ?_);rintro e w4 ⟨rfl,rfl⟩)))
      ((show bodyPost _ _ _ _ _ _);refine bodyPost_ret (by simp only [results,Tryz.results75];go_simp;try rfl) rfl ?_)
      exact ⟨rfl,Gr⟩
    ·subst h
     rcases Nat.eq_zero_or_pos lf with hl|hl
     ·subst hl
      have hmn:0≤mi:=by omega
      have htt:mi.tmod 2=mi % 2:=Int.tmod_eq_emod_of_nonneg hmn
      rcases (show mi % 2=0∨mi % 2=1 by omega) with hmm|hmm
      ·have hu:u=false:=by rw [hup.out];simp [hmm]
       subst hu
       rw [hmm] at htt
       have hb':¬mi=9007199254740992:=by omega
       have BB:=hid (fun W=>B1.out (by simpa using hm2) W)
       rw [show mi+((false.toNat:Nat):Int)=mi by simp] at BB
       clear B1 B2 hup
       go_wp2_with (first
        |(go_at_call 145;go_loud ((with_reducible refine (HN.out _).mono ?_);rintro e w3 ⟨rfl,hw3⟩))
        |(go_at_call 144;go_loud ((with_reducible refine (BB.out _).mono ?_);rintro e w4 ⟨rfl,rfl⟩)))
       ((show bodyPost _ _ _ _ _ _);refine bodyPost_ret (by simp only [results,Tryz.results75];go_simp;try rfl) rfl ?_)
       exact ⟨rfl,Gr⟩
      ·have hu:u=true:=by rw [hup.out];simp [hmm]
       subst hu
       rw [hmm] at htt
       simp only [Bool.toNat_true,Int.natCast_one] at B1 B2
       rcases Int.lt_or_le (mi+1) 9007199254740992 with hb|hb
       ·have BB:=hid (fun W=>B1.out hb W)
        have hb':¬mi+1=9007199254740992:=by omega
        clear B1 B2 hup
        go_wp2_with (first
         |(go_at_call 145;go_loud ((with_reducible refine (HN.out _).mono ?_);rintro e w3 ⟨rfl,hw3⟩))
         |(go_at_call 144;go_loud ((with_reducible refine (BB.out _).mono ?_);rintro e w4 ⟨rfl,rfl⟩)))
        ((show bodyPost _ _ _ _ _ _);refine bodyPost_ret (by simp only [results,Tryz.results75];go_simp;try rfl) rfl ?_)
        exact ⟨rfl,Gr⟩
       ·have hb':mi+1=9007199254740992:=by omega
        have BB:=hid (fun W=>B2.out hb' W)
        have p5:128-(k:Int)+1=129-(k:Int):=by omega
        clear B1 B2 hup
        go_wp2_with (first
         |(go_at_call 145;go_loud ((with_reducible refine (HN.out _).mono ?_);rintro e w3 ⟨rfl,hw3⟩))
         |(go_at_call 144;go_loud ((with_reducible refine (BB.out _).mono ?_);rintro e w4 ⟨rfl,rfl⟩)))
        ((show bodyPost _ _ _ _ _ _);refine bodyPost_ret (by simp only [results,Tryz.results75];go_simp;try rfl) rfl ?_)
        exact ⟨rfl,Gr⟩
     ·have hu:u=true:=by rw [hup.out];simp [hl]
      subst hu
      have hl':0<(lf:Int):=by omega
      simp only [Bool.toNat_true,Int.natCast_one] at B1 B2
      rcases Int.lt_or_le (mi+1) 9007199254740992 with hb|hb
      ·have BB:=hid (fun W=>B1.out hb W)
       have hb':¬mi+1=9007199254740992:=by omega
       clear B1 B2 hup
       go_wp2_with (first
        |(go_at_call 145;go_loud ((with_reducible refine (HN.out _).mono ?_);rintro e w3 ⟨rfl,hw3⟩))
        |(go_at_call 144;go_loud ((with_reducible refine (BB.out _).mono ?_);rintro e w4 ⟨rfl,rfl⟩)))
       ((show bodyPost _ _ _ _ _ _);refine bodyPost_ret (by simp only [results,Tryz.results75];go_simp;try rfl) rfl ?_)
       exact ⟨rfl,Gr⟩
      ·have hb':mi+1=9007199254740992:=by omega
       have BB:=hid (fun W=>B2.out hb' W)
       have p5:128-(k:Int)+1=129-(k:Int):=by omega
       clear B1 B2 hup
       go_wp2_with (first
        |(go_at_call 145;go_loud ((with_reducible refine (HN.out _).mono ?_);rintro e w3 ⟨rfl,hw3⟩))
        |(go_at_call 144;go_loud ((with_reducible refine (BB.out _).mono ?_);rintro e w4 ⟨rfl,rfl⟩)))
       ((show bodyPost _ _ _ _ _ _);refine bodyPost_ret (by simp only [results,Tryz.results75];go_simp;try rfl) rfl ?_)
       exact ⟨rfl,Gr⟩
    ·have hu:u=false:=by rw [hup.out];simp;omega
     subst hu
     have h':(X:Int)<(n:Int):=by omega
     have h'':¬(X:Int)=(n:Int):=by omega
     have hb':¬mi=9007199254740992:=by omega
     have BB:=hid (fun W=>B1.out (by simpa using hm2) W)
     rw [show mi+((false.toNat:Nat):Int)=mi by simp] at BB
     clear B1 B2 hup
     go_wp2_with (first
      |(go_at_call 145;go_loud ((with_reducible refine (HN.out _).mono ?_);rintro e w3 ⟨rfl,hw3⟩))
      |(go_at_call 144;go_loud ((with_reducible refine (BB.out _).mono ?_);rintro e w4 ⟨rfl,rfl⟩)))
     ((show bodyPost _ _ _ _ _ _);refine bodyPost_ret (by simp only [results,Tryz.results75];go_simp;try rfl) rfl ?_)
     exact ⟨rfl,Gr⟩
attribute [local go_sem] Oper.semAt_some
theorem rof_any (a n:Int) (ha:I128 a) (hn: -9223372036854775808≤n∧n≤9223372036854775807) (w:World):
  Calls Tryz.prog 75 #[(Value.agg #[.int .i64 (hiW (a)),.int .u64 (loW (a))]),.int .i64 n] w fun e w'=>e= .returned (.tuple #[.float .f64 (ofF a n),.int .i64 (ofE n)])∧Below w.heap.size w w':=by
 by_cases hbad:n<0∨20000000000<n
 ·have e1:ofF a n=0:=by unfold ofF;rw [of_bad hbad];rfl
  have e2:ofE n=90:=by unfold ofE;rw [of_bad hbad];rfl
  rw [e1,e2]
  generalize hiW a=H at*;generalize loW a=L at*
  clear e1 e2 ha
  rcases Int.lt_or_le n 0 with h1|h1
  ·clear hbad
   go_enter Tryz.func75,Tryz.ntmps75
   go_wp2
   ((show bodyPost _ _ _ _ _ _);refine bodyPost_ret (by simp only [results,Tryz.results75];go_simp;try rfl) rfl ?_)
   exact ⟨rfl,Gr⟩
  ·have h2:20000000000<n:=by omega
   clear hbad
   go_enter Tryz.func75,Tryz.ntmps75
   go_wp2
   ((show bodyPost _ _ _ _ _ _);refine bodyPost_ret (by simp only [results,Tryz.results75];go_simp;try rfl) rfl ?_)
   exact ⟨rfl,Gr⟩
 ·have hg:ofBad n=false:=of_good (by omega) (by omega)
  have h1:0≤n:=by omega
  have h2:n≤20000000000:=by omega
  have e2:ofE n=0:=by unfold ofE;rw [hg];rfl
  rw [e2]
  by_cases hn0:n=0
  ·subst hn0
   by_cases ha0:a=0
   ·have e1:ofF a 0=9221120237041090561:=by unfold ofF;rw [hg,ha0];rfl
    rw [e1,ha0,show hiW 0=0 by decide,show loW 0=0 by decide]
    clear e1 e2 ha hg hbad ha0 h1 h2 hn
    go_enter Tryz.func75,Tryz.ntmps75
    go_wp2_with (go_at_call 140;((with_reducible refine (nan_any _).mono ?_);rintro e w2 ⟨rfl,rfl⟩))
    all_goals
     ((show bodyPost _ _ _ _ _ _);refine bodyPost_ret (by simp only [results,Tryz.results75];go_simp;try rfl) rfl ?_)
     exact ⟨rfl,Gr⟩
   ·have e1:ofF a 0=Ieee.double.word (decide (a<0)) (2047*2^52):=by unfold ofF;rw [hg,if_neg (by simp),if_pos rfl,if_neg ha0]
    rw [e1]
    have hw:a=hiW a*18446744073709551616+loW a:=by unfold hiW loW;omega
    have hne:¬(hiW a=0∧loW a=0):=fun h=>ha0 (by rw [hw,h.1,h.2];rfl)
    have hd:=hi_neg ha
    rw [←hd]
    have hR:=hiW_is a
    generalize hiW a=H at*;generalize loW a=L at*
    have hsh:IntKind.u64.wrap H/9223372036854775808=if H<0 then 1 else 0:=by
     rw [IntKind.wrap_u64];split<;>omega
    have hEq:(H==0&&L==0)=false:=by simpa using hne
    clear e1 e2 ha hg hbad ha0 h1 h2 hn hw hd
    rcases Int.lt_or_le H 0 with h|h
    ·rw [if_pos h] at hsh
     rw [show decide (H<0)=true by simp [h]]
     have IN:=hid (fun W=>inf_any (-1) W)
     rw [show decide ((-1:Int)<0)=true from rfl] at IN
     generalize Ieee.double.word true (2047*2^52)=Z at*
     go_enter Tryz.func75,Tryz.ntmps75
     go_wp2_with (go_at_call 141;go_loud ((with_reducible refine (IN.out _).mono ?_);rintro e w2 ⟨rfl,rfl⟩))
     all_goals
      ((show bodyPost _ _ _ _ _ _);refine bodyPost_ret (by simp only [results,Tryz.results75];go_simp;try rfl) rfl ?_)
      exact ⟨rfl,Gr⟩
    ·rw [if_neg (by omega)] at hsh
     have hsh2:H/9223372036854775808=0:=by omega
     rw [show decide (H<0)=false by simp;omega]
     have IN:=hid (fun W=>inf_any 1 W)
     rw [show decide ((1:Int)<0)=false from rfl] at IN
     generalize Ieee.double.word false (2047*2^52)=Z at*
     go_enter Tryz.func75,Tryz.ntmps75
     go_wp2_with (go_at_call 141;go_loud ((with_reducible refine (IN.out _).mono ?_);rintro e w2 ⟨rfl,rfl⟩))
     all_goals
      ((show bodyPost _ _ _ _ _ _);refine bodyPost_ret (by simp only [results,Tryz.results75];go_simp;try rfl) rfl ?_)
      exact ⟨rfl,Gr⟩
  ·obtain ⟨N,rfl⟩:=Int.eq_ofNat_of_zero_le h1
   by_cases ha0:a=0
   ·subst ha0
    have e1:ofF 0 N=0:=by unfold ofF;rw [hg,if_neg (by simp),if_neg hn0,if_pos rfl]
    rw [e1]
    exact rof_zero N (by omega) (by omega) w
   ·have e1:ofF a N=Ieee.double.word (decide (a<0)) (ofR a.natAbs N):=by unfold ofF;rw [hg,if_neg (by simp),if_neg hn0,if_neg ha0];rfl
    rw [e1]
    exact rof_main a ha ha0 N (by omega) (by omega) w
theorem rfloat_any (a:Int) (ha:I128 a) (w:World):
  Calls Tryz.prog 197 #[(Value.agg #[.int .i64 (hiW (a)),.int .u64 (loW (a))])] w fun e w'=>e= .returned (.float .f64 (ofF a 1))∧Below w.heap.size w w':=by
 have O:=hid (fun W=>rof_any a 1 ha (by decide) W)
 generalize ofF a 1=Z at*
 generalize hiW a=H at*;generalize loW a=L at*
 clear ha
 go_enter Tryz.func197,Tryz.ntmps197
 go_wp2_with (go_at_call 75;((with_reducible refine (O.out _).mono ?_);rintro e w1 ⟨rfl,hw1⟩))
 go_ret
 exact ⟨rfl,Gr⟩
attribute [local go_sem] fbits_run frombits_lit Int.toNat_natCast ord_lt ord_eq ord_gt ord_ne
def keyI (b:Nat):Int:=if isNan b then -9223372036854775808 else if sgn b then -1-((b % 2^63:Nat):Int) else ((b % 2^63:Nat):Int)
theorem keyI_range (b:Nat): -9223372036854775808≤keyI b∧keyI b≤9223372036854775807:=by
 unfold keyI
 (repeat' split)<;>omega
theorem rkey_any (b:Nat) (hb:b<2^64) (w:World):Calls Tryz.prog 196 #[.float .f64 b] w fun e w'=>e= .returned (.int .i64 (keyI b))∧w'=w:=by
 have H:=ord_ne b b
 rw [eqB_self,Bool.not_not] at H
 cases hn:isNan b
 ·rw [hn] at H
  cases hs:sgn b
  ·have hk:keyI b=(b:Int):=by unfold keyI;rw [hn,hs];unfold sgn at hs;simp at hs ⊢;omega
   have h1:(b:Int)/9223372036854775808=0:=by unfold sgn at hs;simp at hs;omega
   have h2:IntKind.i64.wrap (b:Int)=(b:Int):=by simp only [IntKind.wrap_i64];omega
   rw [hk]
   clear hk hb hn hs
   go_enter Tryz.func196,Tryz.ntmps196
   go_wp2
   go_ret
   exact ⟨rfl,rfl⟩
  ·have hk:keyI b= -1-((b % 2^63:Nat):Int):=by unfold keyI;rw [hn,hs];rfl
   have h1:(b:Int)/9223372036854775808=1:=by unfold sgn at hs;simp at hs;omega
   have h3:bits .and .u64 (b:Int) 9223372036854775807=((b % 2^63:Nat):Int):=by
    have:=bits_and b 9223372036854775807 hb (by decide)
    rw [show (9223372036854775807:Nat)=2^63-1 by decide,Nat.and_two_pow_sub_one_eq_mod] at this
    exact this
   rw [hk]
   obtain ⟨m,hm⟩:∃m,b % 2^63=m:=⟨_,rfl⟩
   have hm2:(m:Int)≤9223372036854775807:=by omega
   rw [hm] at h3 ⊢
   clear hk hb hn hs hm
   go_enter Tryz.func196,Tryz.ntmps196
   go_wp2
   go_ret
   exact ⟨rfl,rfl⟩
 ·rw [hn] at H
  have hk:keyI b= -9223372036854775808:=by unfold keyI;rw [hn];rfl
  rw [hk]
  clear hk hb hn
  go_enter Tryz.func196,Tryz.ntmps196
  go_wp2
  go_ret
  exact ⟨rfl,rfl⟩
theorem rcompare_any (a b:Nat) (ha:a<2^64) (hb:b<2^64) (w:World):Calls Tryz.prog 146 #[.float .f64 a,.float .f64 b] w fun e w'=>e= .returned (.int .i64 (sgnI (keyI a) (keyI b)))∧w'=w:=by
 have A:=hid (fun W=>rkey_any a ha W);have B:=hid (fun W=>rkey_any b hb W)
 generalize keyI a=x at*;generalize keyI b=y at*
 clear ha hb
 rcases Int.lt_trichotomy x y with h|h|h
 ·rw [sgn_lt h]
  go_enter Tryz.func146,Tryz.ntmps146
  go_wp2_with (go_at_call 196;first|(((with_reducible refine (A.out _).mono ?_);rintro e w1 ⟨rfl,rfl⟩))|(((with_reducible refine (B.out _).mono ?_);rintro e w1 ⟨rfl,rfl⟩)))
  go_ret
  exact ⟨rfl,rfl⟩
 ·subst h
  rw [sgn_eq rfl]
  go_enter Tryz.func146,Tryz.ntmps146
  go_wp2_with (go_at_call 196;first|(((with_reducible refine (A.out _).mono ?_);rintro e w1 ⟨rfl,rfl⟩))|(((with_reducible refine (B.out _).mono ?_);rintro e w1 ⟨rfl,rfl⟩)))
  go_ret
  exact ⟨rfl,rfl⟩
 ·rw [sgn_gt h]
  have h2:¬x<y:=by omega
  go_enter Tryz.func146,Tryz.ntmps146
  go_wp2_with (go_at_call 196;first|(((with_reducible refine (A.out _).mono ?_);rintro e w1 ⟨rfl,rfl⟩))|(((with_reducible refine (B.out _).mono ?_);rintro e w1 ⟨rfl,rfl⟩)))
  go_ret
  exact ⟨rfl,rfl⟩
theorem rsame_any (a b:Nat) (ha:a<2^64) (hb:b<2^64) (w:World):Calls Tryz.prog 199 #[.float .f64 a,.float .f64 b] w fun e w'=>e= .returned (.bool (decide (keyI a=keyI b)))∧w'=w:=by
 have C:=hid (fun W=>rcompare_any a b ha hb W)
 have hs:decide (keyI a=keyI b)=(sgnI (keyI a) (keyI b)==0):=by rw [Bool.eq_iff_iff];simp [sgn_zero]
 rw [hs]
 generalize sgnI (keyI a) (keyI b)=s at*
 clear hs ha hb
 go_enter Tryz.func199,Tryz.ntmps199
 go_wp2_with (go_at_call 146;((with_reducible refine (C.out _).mono ?_);rintro e w1 ⟨rfl,rfl⟩))
 go_ret
 exact ⟨by first|rfl|simp,rfl⟩
attribute [local go_sem] fbits_run frombits_lit Int.toNat_natCast ord_lt ord_eq ord_gt ord_ne
def cF (a b:Nat):Int:=if isNan a then (if isNan b then 0 else -1) else if isNan b then 1 else sgnI (skey a) (skey b)
def zF (a b:Nat):Int:=if eqB a 0&&eqB b 0 then 1 else 0
def gF (a:Nat):Int:=if sgn a then 0 else 1
theorem eq_zero_is {a:Nat} (h:isNan a=false):eqB a 0=decide (a % 2^63=0):=by
 unfold eqB
 rw [h,Bool.eq_iff_iff]
 unfold skey isNan sgn
 simp
 split<;>omega
theorem keys_is (a b:Nat):(if cF a b=0 then zF a b*sgnI (gF a) (gF b) else cF a b)=sgnI (keyI a) (keyI b):=by
 cases ha:isNan a
 ·cases hb:isNan b
  ·have h1:=eq_zero_is ha;have h2:=eq_zero_is hb
   unfold cF zF gF keyI
   rw [ha,hb,h1,h2]
   unfold isNan at ha hb
   simp at ha hb
   unfold skey
   obtain ⟨x,hx⟩:∃x,a % 2^63=x:=⟨_,rfl⟩
   obtain ⟨y,hy⟩:∃y,b % 2^63=y:=⟨_,rfl⟩
   rw [hx,hy]
   by_cases hx0:x=0<;>by_cases hy0:y=0<;>cases sgn a<;>cases sgn b<;>simp [sgnI,hx0,hy0]<;>(repeat' split)<;>omega
  ·have:=keyI_range a
   have hk:keyI b= -9223372036854775808:=by unfold keyI;rw [hb];rfl
   have hka: -9223372036854775808<keyI a:=by
    unfold keyI
    rw [ha]
    unfold isNan at ha
    simp at ha ⊢
    split<;>omega
   unfold cF
   rw [ha,hb,hk,sgn_gt hka]
   simp
 ·have hk:keyI a= -9223372036854775808:=by unfold keyI;rw [ha];rfl
  cases hb:isNan b
  ·have hkb: -9223372036854775808<keyI b:=by
    unfold keyI
    rw [hb]
    unfold isNan at hb
    simp at hb ⊢
    split<;>omega
   unfold cF
   rw [ha,hb,hk,sgn_lt hkb]
   simp
  ·have hkb:keyI b= -9223372036854775808:=by unfold keyI;rw [hb];rfl
   have hz:eqB a 0=false:=by unfold eqB;rw [ha];rfl
   unfold cF zF
   rw [ha,hb,hk,hkb,hz,sgn_eq rfl]
   simp
theorem nan_f (a:Nat) (w:World):Calls Tryz.prog 164 #[.float .f64 a] w fun e w'=>e= .returned (.bool (isNan a))∧w=w':=by
 have H:=ord_ne a a
 rw [eqB_self,Bool.not_not] at H
 go_enter Tryz.func164,Tryz.ntmps164
 go_wp2
 go_ret
 exact ⟨rfl,rfl⟩
theorem nan_n (a:Int) (w:World):Calls Tryz.prog 165 #[.int .i64 a] w fun e w'=>e= .returned (.bool false)∧w=w':=by
 go_enter Tryz.func165,Tryz.ntmps165
 go_wp2
 go_ret
 exact ⟨ret_bool (by simp),rfl⟩
theorem cmp_n (a b:Int) (w:World):Calls Tryz.prog 97 #[.int .i64 a,.int .i64 b] w fun e w'=>e= .returned (.int .i64 (sgnI a b))∧w=w':=by
 rcases Int.lt_trichotomy a b with h|h|h
 ·rw [sgn_lt h]
  go_enter Tryz.func97,Tryz.ntmps97
  go_wp2_with (go_at_call 165;(with_reducible refine (nan_n _ _).mono ?_);rintro e w1 ⟨rfl,rfl⟩)
  go_ret
  exact ⟨rfl,rfl⟩
 ·rw [sgn_eq h]
  subst h
  go_enter Tryz.func97,Tryz.ntmps97
  go_wp2_with (go_at_call 165;(with_reducible refine (nan_n _ _).mono ?_);rintro e w1 ⟨rfl,rfl⟩)
  go_ret
  exact ⟨rfl,rfl⟩
 ·rw [sgn_gt h]
  go_enter Tryz.func97,Tryz.ntmps97
  go_wp2_with (go_at_call 165;(with_reducible refine (nan_n _ _).mono ?_);rintro e w1 ⟨rfl,rfl⟩)
  go_ret
  exact ⟨rfl,rfl⟩
theorem cmp_f (a b:Nat) (w:World):Calls Tryz.prog 95 #[.float .f64 a,.float .f64 b] w fun e w'=>e= .returned (.int .i64 (cF a b))∧w=w':=by
 have A:=hid (fun W=>nan_f a W);have B:=hid (fun W=>nan_f b W)
 have L1:=ord_lt a b;have L2:=ord_gt a b
 unfold cF
 cases ha:isNan a<;>rw [ha] at A<;>cases hb:isNan b<;>rw [hb] at B
 ·rw [if_neg (by simp),if_neg (by simp)]
  have h1:ltB a b=decide (skey a<skey b):=by unfold ltB;rw [ha,hb];simp
  have h2:ltB b a=decide (skey b<skey a):=by unfold ltB;rw [ha,hb];simp
  rw [h1] at L1;rw [h2] at L2
  generalize skey a=x at*;generalize skey b=y at*
  clear ha hb
  rcases Int.lt_trichotomy x y with h|h|h
  ·rw [sgn_lt h]
   rw [show decide (x<y)=true by simp [h]] at L1 h1
   rw [show decide (y<x)=false by simp;omega] at L2 h2
   go_enter Tryz.func95,Tryz.ntmps95
   go_wp2_with (go_at_call 164;first|((with_reducible refine (A.out _).mono ?_);rintro e w1 ⟨rfl,rfl⟩)|((with_reducible refine (B.out _).mono ?_);rintro e w1 ⟨rfl,rfl⟩))
   go_ret
   exact ⟨rfl,rfl⟩
  ·subst h
   rw [sgn_eq rfl]
   rw [show decide (x<x)=false by simp] at L1 L2 h1 h2
   go_enter Tryz.func95,Tryz.ntmps95
   go_wp2_with (go_at_call 164;first|((with_reducible refine (A.out _).mono ?_);rintro e w1 ⟨rfl,rfl⟩)|((with_reducible refine (B.out _).mono ?_);rintro e w1 ⟨rfl,rfl⟩))
   go_ret
   exact ⟨rfl,rfl⟩
  ·rw [sgn_gt h]
   rw [show decide (x<y)=false by simp;omega] at L1 h1
   rw [show decide (y<x)=true by simp [h]] at L2 h2
   go_enter Tryz.func95,Tryz.ntmps95
   go_wp2_with (go_at_call 164;first|((with_reducible refine (A.out _).mono ?_);rintro e w1 ⟨rfl,rfl⟩)|((with_reducible refine (B.out _).mono ?_);rintro e w1 ⟨rfl,rfl⟩))
   go_ret
   exact ⟨rfl,rfl⟩
 all_goals
  clear L1 L2 ha hb
  go_enter Tryz.func95,Tryz.ntmps95
  go_wp2_with (go_at_call 164;first|((with_reducible refine (A.out _).mono ?_);rintro e w1 ⟨rfl,rfl⟩)|((with_reducible refine (B.out _).mono ?_);rintro e w1 ⟨rfl,rfl⟩))
  go_ret
  exact ⟨rfl,rfl⟩
theorem sign_any (a:Nat) (ha:a<2^64) (w:World):Calls Tryz.prog 98 #[.float .f64 a] w fun e w'=>e= .returned (.int .i64 (gF a))∧w=w':=by
 have A:=hid (fun W=>signbit_any a ha W)
 unfold gF
 clear ha
 cases h:sgn a<;>rw [h] at A
 all_goals
  clear h
  go_enter Tryz.func98,Tryz.ntmps98
  go_wp2_with (go_at_call 166;((with_reducible refine (A.out _).mono ?_);rintro e w1 ⟨rfl,rfl⟩))
  go_ret
  exact ⟨rfl,rfl⟩
attribute [local go_sem] fbits_run frombits_lit Int.toNat_natCast ord_lt ord_eq ord_gt ord_ne
theorem zero_two (x y:Nat) (b cap:Nat) (w:World) (h0:w.cell? ⟨b,0,none⟩=some (.float .f64 x)) (h1:w.cell? ⟨b,1,none⟩=some (.float .f64 y)):
  Calls Tryz.prog 96 #[.slice (some ⟨b,0,none⟩) 2 cap] w fun e w'=>e= .returned (.int .i64 (zF x y))∧w=w':=by
 have X:=ord_ne x 0;have Y:=ord_ne y 0
 unfold zF
 cases hx:eqB x 0<;>rw [hx] at X
 ·clear hx Y
  go_enter Tryz.func96,Tryz.ntmps96
  go_wp2
  refine wp_loop_rounds 3 ?_
  rw [rounds_succ]
  go_wp2
  go_ret
  exact ⟨rfl,rfl⟩
 ·cases hy:eqB y 0<;>rw [hy] at Y
  ·clear hx hy
   go_enter Tryz.func96,Tryz.ntmps96
   go_wp2
   refine wp_loop_rounds 3 ?_
   rw [rounds_succ]
   go_wp2
   rw [rounds_succ]
   go_wp2
   go_ret
   exact ⟨rfl,rfl⟩
  ·clear hx hy
   go_enter Tryz.func96,Tryz.ntmps96
   go_wp2
   refine wp_loop_rounds 3 ?_
   rw [rounds_succ]
   go_wp2
   rw [rounds_succ]
   go_wp2
   rw [rounds_succ]
   go_wp2
   go_ret
   exact ⟨rfl,rfl⟩
theorem gF_sgn (a b:Nat): -1≤sgnI (gF a) (gF b)∧sgnI (gF a) (gF b)≤1:=by unfold sgnI;(repeat' split)<;>omega
theorem rtCompare_any (a b:Nat) (ha:a<2^64) (hb:b<2^64) (w:World):Calls Tryz.prog 49 #[.float .f64 a,.float .f64 b] w fun e w'=>e= .returned (.int .i64 (sgnI (keyI a) (keyI b)))∧Below w.heap.size w w':=by
 rw [←keys_is]
 have C:=hid (fun W=>cmp_f a b W);have Z:=hid (fun c cap W h0 h1=>zero_two a b c cap W h0 h1)
 have SA:=hid (fun W=>sign_any a ha W);have SB:=hid (fun W=>sign_any b hb W)
 have G:=hid (fun W=>cmp_n (gF a) (gF b) W)
 have hz:zF a b=0∨zF a b=1:=by unfold zF;split<;>simp
 have hg:=gF_sgn a b
 have hm:IntKind.i64.wrap (zF a b*sgnI (gF a) (gF b))=zF a b*sgnI (gF a) (gF b):=by
  simp only [IntKind.wrap_i64]
  rcases hz with h|h<;>rw [h]<;>omega
 obtain ⟨s,hs⟩:∃s,sgnI (gF a) (gF b)=s:=⟨_,rfl⟩
 rw [hs] at G hm ⊢
 generalize zF a b=z at*
 generalize gF a=x at*;generalize gF b=y at*
 generalize cF a b=c at*
 obtain ⟨p,hp⟩:∃p,z*s=p:=⟨_,rfl⟩
 rw [hp] at hm ⊢
 have HW:Hid (wrap64 (z*s)=p):=by unfold Hid;rw [hp];simp only [IntKind.wrap_i64] at hm;unfold wrap64;omega
 clear ha hb hz hg hs hp
 go_enter Tryz.func49,Tryz.ntmps49
 go_wp2_with (first
  |(go_at_call 95;go_loud ((with_reducible refine (C.out _).mono ?_);rintro e w1 ⟨rfl,rfl⟩))
  |(go_at_call 96;go_loud ((with_reducible refine (Z.out _ _ _ (by go_simp) (by go_simp)).mono ?_);rintro e w2 ⟨rfl,rfl⟩))
  |(go_at_call 98;first|((with_reducible refine (SA.out _).mono ?_);rintro e w3 ⟨rfl,rfl⟩)|((with_reducible refine (SB.out _).mono ?_);rintro e w3 ⟨rfl,rfl⟩))
  |(go_at_call 97;go_loud ((with_reducible refine (G.out _).mono ?_);rintro e w4 ⟨rfl,rfl⟩))
  |(go_at_call 94;go_loud (refine (or_two c p _ _ _ (by go_simp) (by go_simp;exact HW.out)).mono ?_;rintro e w5 ⟨rfl,rfl⟩)))
 all_goals
  go_ret
  exact ⟨rfl,Gr⟩
theorem rtSame_any (a b:Nat) (ha:a<2^64) (hb:b<2^64) (w:World):Calls Tryz.prog 88 #[.float .f64 a,.float .f64 b] w fun e w'=>e= .returned (.bool (decide (keyI a=keyI b)))∧Below w.heap.size w w':=by
 have C:=hid (fun W=>rtCompare_any a b ha hb W)
 have hs:decide (keyI a=keyI b)=(sgnI (keyI a) (keyI b)==0):=by rw [Bool.eq_iff_iff];simp [sgn_zero]
 rw [hs]
 generalize sgnI (keyI a) (keyI b)=s at*
 clear hs ha hb
 go_enter Tryz.func88,Tryz.ntmps88
 go_wp2_with (go_at_call 49;((with_reducible refine (C.out _).mono ?_);rintro e w1 ⟨rfl,hw1⟩))
 go_ret
 exact ⟨by first|rfl|simp,Gr⟩
open Go.Lib (decDigits itoa)
abbrev strL (l:List UInt8):Value:= .string ⟨l.toArray⟩
theorem dec_len:∀(k n:Nat),n<10^(k+1)→(decDigits n).length≤k+1
 |0,n,h=>by rw [decDigits,dif_pos (by simpa using h)];simp
 |k+1,n,h=>by
  rw [decDigits]
  split
  ·simp
  ·have:n/10<10^(k+1):=by rw [Nat.div_lt_iff_lt_mul (by decide),←Nat.pow_succ];exact h
   have:=dec_len k _ this
   simpa using this
theorem dec_20 {n:Nat} (h:n<2^64):(decDigits n).length≤20:=dec_len 19 n (by
 have:(10:Nat)^20=100000000000000000000:=by decide
 rw [this];omega)
open Go.Sort
open Go.Lib (decDigits itoa)
theorem holds_zero0 (w:World) (T:TypeId) (n:Nat) (hn:n≤23):Holds (fun (b:UInt8)=>Value.int .u8 (b.toNat:Int)) (w.alloc (.cells Lib.zeros24 T)) w.heap.size 0 (Array.replicate n 0):=by
 intro j hj
 have hj':j<n:=by simpa using hj
 refine ⟨?_,World.frozen?_alloc_new _ _ _ _⟩
 rw [World.cell?_alloc_new,Lib.zeros24_at _ (by omega),getElem!_pos _ j hj]
 simp
theorem fin_pos0 (w:World) (o:Obj) (dk:Array UInt8) (k:Nat):∃os,(putRow (fun (b:UInt8)=>Value.int .u8 (b.toNat:Int)) (w.alloc o) w.heap.size 0 dk).drewN k=grow (w.drewN k) os:=by
 rw [alloc_eq_grow]
 obtain ⟨os',_,e⟩:=putRow_grow_new (fun (b:UInt8)=>Value.int .u8 (b.toNat:Int)) w #[o] w.heap.size 0 dk (Nat.le_refl _)
 exact ⟨os',by rw [e];rfl⟩
set_option maxHeartbeats 6400000 in
theorem formatUint_in (u:Nat) (hu1:1≤u) (hu64:u<18446744073709551616) (w:World)
  (htab : Lib.TabIs Tryz.prog w "internal/strconv.uint64pow10" .u64 Lib.pow10Tab) :
  Calls Tryz.prog 156 #[.int .u64 (u:Int),.int .i64 10] w fun e w'=>e= .returned (strL (decDigits u))∧∃k os,w'=grow (w.drewN k) os:=by
 by_cases hs:u<100
 ·have hs':(u:Int)<100:=by omega
  go_enter Tryz.func156,Tryz.ntmps156
  go_wp2_with (go_at_call 150;go_loud (refine (Tryz.internal_strconv_small u hs _).mono ?_;rintro e w' ⟨rfl,rfl⟩))
  go_ret
  exact ⟨rfl,0,#[],by simp [World.drewN_zero]⟩
 ·have hs':100≤(u:Int):=by omega
  have hnd20:Lib.nDigits u≤20:=by have:=Lib.numDigits_eq u hu1 hu64;split at this<;>omega
  have hb3:Lib.nDigits u≤23:=by omega
  have hal:Tryz.prog.arrayLen 195=24:=by simp [Program.arrayLen,Tryz.underlying195]
  have hsl1:∀W,(Instr.sliceAt 195 (.pointer (some ⟨w.heap.size,0,none⟩)) none (some (.int .i64 (Lib.nDigits u:Int))) none).run Tryz.prog W= .ok (.slice (some ⟨w.heap.size,0,none⟩) (Lib.nDigits u) 24) W:=fun W=>by
   rw [run_sliceAt_array_h W 195 ⟨w.heap.size,0,none⟩ (by simp [Program.arrayLen,Program.elem,Tryz.underlying195]) .i64 (Lib.nDigits u:Int) (by omega) (by rw [hal];omega)]
   go_simp
  have hH0:=holds_zero0 w 195 (Lib.nDigits u) (by omega)
  have hfmt:=Tryz.internal_strconv_formatBase10 w.heap.size 0 24 u (Array.replicate (Lib.nDigits u) 0) (w.alloc (.cells Lib.zeros24 195)) hH0 (by rw [Array.size_replicate];exact Lib.lt_pow_nDigits u) hu64 (by rw [Array.size_replicate];omega)
  rw [Array.size_replicate] at hfmt
  have HH0:=Lib.hid hH0
  clear hH0 hal
  go_enter Tryz.func156,Tryz.ntmps156
  go_wp2_with (first
   |(go_at_call 151;go_loud (refine (Tryz.internal_strconv_numDigits u hu1 hu64 _ (Lib.tabIs_alloc htab _)).mono ?_;rintro e w' ⟨rfl,rfl⟩)))
  go_at_call 152
  refine hfmt.mono ?_
  rintro e w' ⟨rfl,k,v',dk,rfl,hF⟩
  have hcv:(convert 135 9 (.slice (some ⟨w.heap.size,0,none⟩) (Lib.nDigits u) 24)).run Tryz.prog ((putRow (fun (b:UInt8)=>Value.int .u8 (b.toNat:Int)) (w.alloc (.cells Lib.zeros24 195)) w.heap.size 0 dk).drewN k)= .ok (.string ⟨(Lib.decDigits u).toArray⟩) ((putRow (fun (b:UInt8)=>Value.int .u8 (b.toNat:Int)) (w.alloc (.cells Lib.zeros24 195)) w.heap.size 0 dk).drewN k):=by
   have h:=run_convert_bytes_back (P:=Tryz.prog) ((putRow (fun (b:UInt8)=>Value.int .u8 (b.toNat:Int)) (w.alloc (.cells Lib.zeros24 195)) w.heap.size 0 dk).drewN k) 135 9 5 ⟨w.heap.size,0,none⟩ 24 (Lib.decDigits u) Tryz.underlying135 Tryz.underlying5 Tryz.underlying9 (fun j hj=>by
    rw [Lib.row_is_numeral hF j hj,Lib.add_plain,World.cell?_drewN]
    exact cell?_putRow (fun (b:UInt8)=>Value.int .u8 (b.toNat:Int)) _ w.heap.size 0 _ dk HH0.out (by rw [hF.size,Array.size_replicate]) j (by rw [hF.size];rw [Lib.decDigits_length] at hj;exact hj))
   rw [Lib.decDigits_length] at h
   exact h
  go_wp2
  go_ret
  obtain ⟨os,eo⟩:=fin_pos0 w (.cells Lib.zeros24 195) dk k
  exact ⟨rfl,k,os,eo⟩
theorem below_grow (w:World) (os:Array Obj):Below w.heap.size w (grow w os):=by
 refine ⟨rfl,rfl,rfl,?_,fun i hi=> ?_⟩
 ·simp [grow]
 ·simp only [grow]
  rw [Array.getElem?_append_left (by omega)]
theorem below_grow_drew (w:World) (k:Nat) (os:Array Obj):Below w.heap.size w (grow (w.drewN k) os):=by
 have h:=below_grow w os
 have e:grow (w.drewN k) os=(grow w os).drewN k:=rfl
 rw [e]
 exact h.drewN k
theorem formatUint_any (u:Nat) (hu1:1≤u) (hu64:u<18446744073709551616) (w:World)
  (htab : Lib.TabIs Tryz.prog w "internal/strconv.uint64pow10" .u64 Lib.pow10Tab) :
  Calls Tryz.prog 85 #[.int .u64 (u:Int),.int .i64 10] w fun e w'=>e= .returned (strL (decDigits u))∧Below w.heap.size w w':=by
 have F:=hid (formatUint_in u hu1 hu64 w htab)
 generalize decDigits u=D at*
 clear htab hu1 hu64
 go_enter Tryz.func85,Tryz.ntmps85
 go_wp2_with (go_at_call 156;go_loud (refine F.out.mono ?_;rintro e w' ⟨rfl,k,os,rfl⟩))
 go_ret
 exact ⟨rfl,below_grow_drew _ _ _⟩
theorem itoa_any (n : Int) (h0 : -9223372036854775808 ≤ n) (h1 : n ≤ 9223372036854775807) (w : World) (htab : Lib.TabIs Tryz.prog w "internal/strconv.uint64pow10" .u64 Lib.pow10Tab) :
  Calls Tryz.prog 44 #[.int .i64 n] w fun e w'=>e= .returned (strL (itoa n))∧Below w.heap.size w w':=
 (Tryz.strconv_Itoa n h0 h1 w htab).mono (by rintro e w' ⟨rfl,k,os,rfl⟩;exact ⟨rfl,below_grow_drew _ _ _⟩)
open Go.ChangeMaps Go.MapKept
open Go.Maps (Keyed)
def floatElem (v:Value):Option (DataW Unit×List MemPlace):=
 match v with
 | .float .f64 b=>some (.lit (.int .u64 b),[])
 |_=>none
def sB (l:List UInt8):Lit:= .string l
def wordsD:DataW Unit:=((((((DataW.map []).put (sB [110,97,110]) (.lit (.int .u64 9221120237041090561))).put (sB [105,110,102]) (.lit (.int .u64 9218868437227405312))).put (sB [45,105,110,102]) (.lit (.int .u64 18442240474082181120))).put (sB [48]) (.lit (.int .u64 0))).put (sB [45,48]) (.lit (.int .u64 9223372036854775808)))
theorem wpList_insert_own {H:Type} {P:Program} (w:World) {ops:Array Oper} {rest:List Oper} {o:Oper} {a:Act} {Q:Exit→Act→World→Prop}
  (hg:o.guard=none) (m x v:Operand) (t:TypeId) (hop:o.op=Op.insert t m x v)
  (k e:TypeId) (K:Keyed P k) (ht:P.underlying t=some (.map k e)) (R:Value→Option (DataW H×List MemPlace)) (b n:Nat) (D:DataW H)
  (hm:a.eval m= .map (some b)) (hown:w.ownsMap P k R b n D) (hn:n<maxLen) (key val:Value) (kl:Lit) (hx:a.eval x=key) (hv:a.eval v=val) (hkey:keyOf P k key=some kl)
  (d:DataW H) (ps:List MemPlace) (hval:R val=some (d,ps))
  (hK:∀w',w'.ownsMap P k R b (n+1) (D.put kl d)→w.grownBy w' (some b)→wpList P ops Q rest (a.put o.dst undef) w'):
  wpList P ops Q (o::rest) a w:=by
 refine wpList_plain hg fun K' hK'=> ?_
 obtain ⟨w',hrun,r1,r2⟩:=hown.update K ht hn hkey hval
 unfold Oper.wp
 simp [execOp,hop,hm,hx,hv,hrun,Result.andThen]
 exact hK' _ _ (hK w' r1 r2)
theorem words_any (w:World):Calls Tryz.prog 87 #[] w fun e w'=>e= .returned (.map (some w.heap.size))∧w'.ownsMap Tryz.prog 9 floatElem w.heap.size 5 wordsD∧Below w.heap.size w w':=by
 have hmake:∀X,(Instr.makeMap 144 none).run Tryz.prog X= .ok (.map (some X.heap.size)) (X.alloc (.map #[] 0)):=fun X=>by first|exact run_makeMap X _ _ _ Tryz.underlying144|exact run_makeMap _ _|rfl
 have I1:=hid (fun W=>inf_any 1 W)
 have I2:=hid (fun W=>inf_any (-1) W)
 have N1:=hid (fun W=>nan_any W)
 have C1:=hid (fun W=>copysign_any 0 13830554455654793216 (by decide) (by decide) W)
 go_enter Tryz.func87,Tryz.ntmps87
 have h0:=World.ownsMap_made w Tryz.prog 9 floatElem
 go_wp2_with (first
  |(go_at_call 140;((with_reducible refine (N1.out _).mono ?_);rintro e x1 ⟨rfl,rfl⟩))
  |(go_at_call 141;first|((with_reducible refine (I1.out _).mono ?_);rintro e x2 ⟨rfl,rfl⟩)|((with_reducible refine (I2.out _).mono ?_);rintro e x3 ⟨rfl,rfl⟩))
  |(go_at_call 157;((with_reducible refine (C1.out _).mono ?_);rintro e x4 ⟨rfl,rfl⟩))
  |(refine wpList_insert_own _ rfl _ _ _ 144 rfl 9 61 (Maps.string_keyed Tryz.underlying9) Tryz.underlying144 floatElem w.heap.size 4 _ rfl hown4 (by unfold maxLen;omega) _ _ (.string [45,48]) rfl rfl (by first|rfl|kernel_rfl|decide) (.lit (.int .u64 9223372036854775808)) [] rfl ?_;intro w5 hown5 hg5)
  |(refine wpList_insert_own _ rfl _ _ _ 144 rfl 9 61 (Maps.string_keyed Tryz.underlying9) Tryz.underlying144 floatElem w.heap.size 3 _ rfl hown3 (by unfold maxLen;omega) _ _ (.string [48]) rfl rfl (by first|rfl|kernel_rfl|decide) (.lit (.int .u64 0)) [] rfl ?_;intro w4 hown4 hg4)
  |(refine wpList_insert_own _ rfl _ _ _ 144 rfl 9 61 (Maps.string_keyed Tryz.underlying9) Tryz.underlying144 floatElem w.heap.size 2 _ rfl hown2 (by unfold maxLen;omega) _ _ (.string [45,105,110,102]) rfl rfl (by first|rfl|kernel_rfl|decide) (.lit (.int .u64 18442240474082181120)) [] rfl ?_;intro w3 hown3 hg3)
  |(refine wpList_insert_own _ rfl _ _ _ 144 rfl 9 61 (Maps.string_keyed Tryz.underlying9) Tryz.underlying144 floatElem w.heap.size 1 _ rfl hown1 (by unfold maxLen;omega) _ _ (.string [105,110,102]) rfl rfl (by first|rfl|kernel_rfl|decide) (.lit (.int .u64 9218868437227405312)) [] rfl ?_;intro w2 hown2 hg2)
  |(refine wpList_insert_own _ rfl _ _ _ 144 rfl 9 61 (Maps.string_keyed Tryz.underlying9) Tryz.underlying144 floatElem w.heap.size 0 _ rfl h0 (by unfold maxLen;omega) _ _ (.string [110,97,110]) rfl rfl (by first|rfl|kernel_rfl|decide) (.lit (.int .u64 9221120237041090561)) [] rfl ?_;intro w1 hown1 hg1))
 go_ret
 have z0:Below w.heap.size w (w.alloc (.map #[] 0)):=(Below.refl _ _).alloc (Nat.le_refl _) _
 have z1:=z0.grown hg1 z0.size (fun r e=>by cases e;exact Nat.le_refl _)
 have z2:=z1.grown hg2 z1.size (fun r e=>by cases e;exact Nat.le_refl _)
 have z3:=z2.grown hg3 z2.size (fun r e=>by cases e;exact Nat.le_refl _)
 have z4:=z3.grown hg4 z3.size (fun r e=>by cases e;exact Nat.le_refl _)
 have z5:=z4.grown hg5 z4.size (fun r e=>by cases e;exact Nat.le_refl _)
 exact ⟨rfl,hown5,z5⟩
open Go.Lib (decDigits itoa)
attribute [local go_sem] fbits_run frombits_lit Int.toNat_natCast ord_lt ord_eq ord_gt ord_ne
theorem itoa_21 {n:Int} (h: -9223372036854775808≤n∧n≤9223372036854775807):(itoa n).length≤21:=by
 unfold itoa
 split
 ·have:=dec_20 (n:=n.natAbs) (by omega)
  simp
  omega
 ·have:=dec_20 (n:=n.toNat) (by omega)
  omega
theorem whole_53 {m:Nat} (h1:2^52≤m) (h2:m<2^53):Rep (1021*2^52+m) 1021 m∧Rep (1074*2^52+m) 1074 m∧Same2 m ((1021:Nat)+53) 1074 m:=
 ⟨⟨rfl,h2,.inr h1,by omega,by omega⟩,⟨rfl,h2,.inr h1,by omega,by omega⟩,.inl ⟨0,by omega,by simp⟩⟩
theorem read_53 {m:Nat} (h1:2^52≤m) (h2:m<2^53):Ieee.double.read (1074*2^52+m)= .number false m 0:=by
 have h:=(whole_53 h1 h2).2.1.read false
 rw [word_false] at h
 exact h
theorem toInt_53 {m:Nat} (h1:2^52≤m) (h2:m<2^53):floatToIntVal .f64 (1074*2^52+m) .u64=some (m:Int):=by
 unfold floatToIntVal FloatKind.decode
 rw [f64_format,read_53 h1 h2]
 have e:Ieee.Datum.toInt .zero (.number false m 0)=some (m:Int):=by
  simp [Ieee.Datum.toInt,Ieee.Datum.integral,Ieee.signed,Ieee.Toward.cut]
 rw [e]
 have b1:IntKind.u64.min=0:=rfl
 have b2:IntKind.u64.max=18446744073709551615:=rfl
 rw [b1,b2]
 simp only []
 rw [if_pos (by omega)]
def wordsL:List (List UInt8×Nat):=[([45,48],9223372036854775808),([45,105,110,102],18442240474082181120),([48],0),([105,110,102],9218868437227405312),([110,97,110],9221120237041090561)]
theorem wordsD_is:wordsD= .map (wordsL.map fun p=>(sB p.1,.lit (.int .u64 p.2))):=by rfl
theorem word_at {kl:Lit} {c:Nat} (h:∀zd,wordsD.atKey kl zd= .lit (.int .u64 c)):∃p∈wordsL,kl=sB p.1∧c=p.2:=by
 have h1:=h (.lit (.bool false))
 rw [wordsD_is] at h1
 unfold DataW.atKey at h1
 dsimp only at h1
 split at h1
 ·rename_i p hp
  have hm:=List.mem_of_find?_eq_some hp
  have hk:=List.find?_some hp
  obtain ⟨q,hq,rfl⟩:=List.mem_map.1 hm
  refine ⟨q,hq,(WideAt.sameKey_eq hk).symm,?_⟩
  simp at h1
  omega
 ·simp at h1
theorem has_words {p:List UInt8×Nat} (hp:p∈wordsL):Maps.has wordsD (sB p.1)=true:=by
 rw [wordsD_is]
 refine List.any_eq_true.2 ⟨(sB p.1,.lit (.int .u64 p.2)),List.mem_map.2 ⟨p,hp,rfl⟩,?_⟩
 show (p.1==p.1)=true
 simp
theorem key_nan {b:Nat} (h:keyI b= -9223372036854775808):isNan b=true:=by
 unfold keyI at h
 cases hn:isNan b with
 |true=>rfl
 |false=>
  rw [hn] at h
  have hn':b % 2^63≤2047*2^52:=by simpa [isNan] using hn
  simp only [Bool.false_eq_true,if_false] at h
  split at h<;>omega
theorem key_num {b:Nat} (h:keyI b≠ -9223372036854775808):isNan b=false∧(if sgn b then keyI b= -1-((b % 2^63:Nat):Int) else keyI b=((b % 2^63:Nat):Int)):=by
 unfold keyI at h ⊢
 cases hn:isNan b with
 |true=>rw [hn] at h;simp at h
 |false=>
  refine ⟨rfl,?_⟩
  cases sgn b<;>simp
theorem key_text {b:Nat} {p:List UInt8×Nat} (hp:p∈wordsL) (h:keyI p.2=keyI b):textB b=p.1:=by
 have k1:keyI 9223372036854775808= -1:=by decide+kernel
 have k2:keyI 18442240474082181120= -1-9218868437227405312:=by decide+kernel
 have k3:keyI 0=0:=by decide+kernel
 have k4:keyI 9218868437227405312=9218868437227405312:=by decide+kernel
 have k5:keyI 9221120237041090561= -9223372036854775808:=by decide+kernel
 have main:∀(s:Bool) (r:Nat),r≤9218868437227405312→keyI b=(if s then -1-(r:Int) else (r:Int))→textB b=if s then 45::bodyT r else bodyT r:=by
  intro s r hr hk
  obtain ⟨n1,n2⟩:=key_num (b:=b) (by rw [hk];split<;>omega)
  unfold textB
  rw [n1]
  cases hs:sgn b
  ·rw [hs] at n2
   simp only [Bool.false_eq_true,if_false] at n2 ⊢
   cases s
   ·simp only [Bool.false_eq_true,if_false] at hk ⊢
    have:b % 2^63=r:=by omega
    rw [this]
   ·simp only [if_true] at hk
    omega
  ·rw [hs] at n2
   simp only [Bool.false_eq_true,if_false,if_true] at n2 ⊢
   cases s
   ·simp only [Bool.false_eq_true,if_false] at hk
    omega
   ·simp only [if_true] at hk ⊢
    have:b % 2^63=r:=by omega
    rw [this]
 unfold wordsL at hp
 simp only [List.mem_cons,List.not_mem_nil,or_false] at hp
 rcases hp with rfl|rfl|rfl|rfl|rfl
 ·exact main true 0 (by decide) (by rw [←h];exact k1)
 ·exact main true 9218868437227405312 (by decide) (by rw [←h];exact k2)
 ·exact main false 0 (by decide) (by rw [←h];exact k3)
 ·exact main false 9218868437227405312 (by decide) (by rw [←h];exact k4)
 ·have:=key_nan (b:=b) (by rw [←h];exact k5)
  unfold textB
  rw [this]
  rfl
theorem key_other {b:Nat} (h:∀p∈wordsL,keyI p.2≠keyI b):isNan b=false∧0<b % 2^63∧b % 2^63<9218868437227405312:=by
 have k1:keyI 9223372036854775808= -1:=by decide+kernel
 have k2:keyI 18442240474082181120= -1-9218868437227405312:=by decide+kernel
 have k3:keyI 0=0:=by decide+kernel
 have k4:keyI 9218868437227405312=9218868437227405312:=by decide+kernel
 have k5:keyI 9221120237041090561= -9223372036854775808:=by decide+kernel
 have h1:=h ([45,48],9223372036854775808) (by unfold wordsL;simp)
 have h2:=h ([45,105,110,102],18442240474082181120) (by unfold wordsL;simp)
 have h3:=h ([48],0) (by unfold wordsL;simp)
 have h4:=h ([105,110,102],9218868437227405312) (by unfold wordsL;simp)
 have h5:=h ([110,97,110],9221120237041090561) (by unfold wordsL;simp)
 dsimp only at h1 h2 h3 h4 h5
 rw [k1] at h1;rw [k2] at h2;rw [k3] at h3;rw [k4] at h4;rw [k5] at h5
 obtain ⟨n1,n2⟩:=key_num (b:=b) (fun e=>h5 e.symm)
 refine ⟨n1,?_⟩
 unfold isNan at n1
 have n1':b % 2^63≤2047*2^52:=by simpa using n1
 split at n2<;>omega
open Go.Maps (Keyed)
open Go.Lib (decDigits itoa)
attribute [local go_sem] ord_lt ord_eq ord_gt ord_ne
structure Tabs (w:World):Prop where
 dig : Lib.TabIs Tryz.prog w "internal/strconv.uint64pow10" .u64 Lib.pow10Tab
 tz:TabAt 1 Lib.deBruijn64tab w
 size:1<w.heap.size
theorem gPow : Tryz.prog.globalNamed "internal/strconv.uint64pow10" = some 5 := by kernel_rfl
theorem Tabs.below {B:Nat} {w w':World} (h:Tabs w) (hb:Below B w w') (hB:w.heap.size≤B):Tabs w':=
 ⟨Joins.tab_stays gPow h.dig hb hB,fun j hj=>(hb.cell (Nat.lt_of_lt_of_le h.size hB)).trans (h.tz j hj),Nat.lt_of_lt_of_le h.size hb.size⟩
theorem join3 (x y:List UInt8):Value.string (({ data:=x.toArray}:ByteArray)++{ data:= #[112]}++{ data:=y.toArray})=strL (x++112::y):=by
 congr 1
 show ByteArray.mk _=ByteArray.mk _
 congr 1
 simp
theorem joinN (x y:List UInt8):Value.string (({ data:= #[45]}:ByteArray)++(({ data:=x.toArray}:ByteArray)++{ data:= #[112]}++{ data:=y.toArray}))=strL (45::(x++112::y)):=by
 congr 1
 show ByteArray.mk _=ByteArray.mk _
 congr 1
 simp
theorem lt_zero {b:Nat} (hn:isNan b=false) (hr:0<b % 2^63):ltB b 0=sgn b:=by
 unfold ltB
 rw [hn,skey_pos (show 0<2^63 by decide),nan_pos (show 0<2^63 by decide)]
 unfold skey
 cases sgn b<;>simp<;>omega
theorem text_fin {b:Nat} (hn:isNan b=false) (h1:0<b % 2^63) (h2:b % 2^63<2047*2^52):textB b=(if sgn b then [45] else [])++(decDigits (oddM (fM (b % 2^63)))++112::itoa ((fK (b % 2^63):Int)-1074+tz (fM (b % 2^63)))):=by
 have e:bodyT (b % 2^63)=finT (b % 2^63):=by
  unfold bodyT
  rw [if_neg (by omega),if_neg (by omega)]
 unfold textB
 rw [hn,e]
 cases sgn b<;>rfl
theorem tz_pow {m:Nat} (h:0<m) (h2:m<2^53):tz m≤53:=by
 have h3:=(tz_spec m h).1
 have h4:0<m/2^tz m:=by
  rcases Nat.eq_zero_or_pos (m/2^tz m) with h|h
  ·rw [h] at h3;omega
  ·exact h
 refine Nat.le_of_not_lt fun hz=> ?_
 have h5:(2:Nat)^54≤2^tz m:=Nat.pow_le_pow_right (by decide) hz
 have h6:1*2^54≤m/2^tz m*2^tz m:=Nat.mul_le_mul h4 h5
 omega
theorem strL_of {x:ByteArray} {l:List UInt8} (h:x.data.toList=l):Value.string x=strL l:=by
 subst h
 cases x
 rfl
theorem inv_str (key:Value) (kl:Lit) (h:keyOf Tryz.prog 9 key=some kl):∃x,key=Value.string x:=by
 unfold keyOf at h
 rw [Tryz.underlying9] at h
 unfold mapKey at h
 simp only [Tryz.underlying9] at h
 cases key<;>simp at h
 exact ⟨_,rfl⟩
theorem key_str (x:ByteArray) (kl:Lit) (h:keyOf Tryz.prog 9 (.string x)=some kl):kl=sB x.data.toList:=by
 unfold keyOf at h
 rw [Tryz.underlying9] at h
 unfold mapKey at h
 simp only [Tryz.underlying9] at h
 simp at h
 exact h.2.symm
theorem inv_flt (v:Value) (y:DataW Unit×List MemPlace) (h:floatElem v=some y):∃c,v=Value.float .f64 c:=by
 unfold floatElem at h
 split at h
 ·exact ⟨_,rfl⟩
 ·cases h
theorem flt_of (c:Nat) (y:DataW Unit×List MemPlace) (h:floatElem (.float .f64 c)=some y):y.1= .lit (.int .u64 c):=by
 unfold floatElem at h
 cases h
 rfl
theorem words_lt {p:List UInt8×Nat} (hp:p∈wordsL):p.2<2^64:=by
 unfold wordsL at hp
 simp only [List.mem_cons,List.not_mem_nil,or_false] at hp
 rcases hp with rfl|rfl|rfl|rfl|rfl<;>decide
theorem words_fun {p q:List UInt8×Nat} (hp:p∈wordsL) (hq:q∈wordsL) (h:p.1=q.1):p.2=q.2:=by
 have key:∀p∈wordsL,∀q∈wordsL,p.1=q.1→p.2=q.2:=by decide
 exact key p hp q hq h
theorem below_none {w w':World} (h:Below w.heap.size w w'):w.grownBy w' none:=⟨h.os,h.tape,h.output,h.size,fun i hi _=>h.block i hi⟩
theorem ldexp_53 {m:Nat} (m1:2^52≤m) (m2:m<2^53) (w:World):Calls Tryz.prog 91 #[.float .f64 (1021*2^52+m),.int .i64 53] w fun e w'=>e= .returned (.float .f64 (1074*2^52+m))∧w=w':=by
 obtain ⟨w1,w2,w3⟩:=whole_53 m1 m2
 have h:=ldexp_any false w1 m1 53 (by omega) w
 rw [word_false] at h
 refine h.mono ?_
 rintro e w' ⟨⟨z,rfl,_,_,hz⟩,rfl⟩
 have:=hz w2 w3
 rw [word_false] at this
 exact ⟨by rw [this],rfl⟩
theorem conv_53 {m:Nat} (m1:2^52≤m) (m2:m<2^53) (w:World):(convert 61 95 (.float .f64 (1074*2^52+m))).run Tryz.prog w= .ok (.int .u64 (m:Int)) w:=
 run_convert_float_int w 61 95 .f64 .u64 _ _ (by rw [Tryz.underlying61];rfl) Tryz.underlying95 (toInt_53 m1 m2)
set_option maxHeartbeats 2000000 in
theorem text_any (b:Nat) (hb:b<2^64) (w:World) (hT:Tabs w):Calls Tryz.prog 47 #[.float .f64 b] w fun e w'=>e= .returned (strL (textB b))∧Below w.heap.size w w':=by
 have WO:=hid (fun W=>words_any W)
 have SA:=hid (fun c (hc:c<2^64) W=>rtSame_any c b hc hb W)
 have AB:=hid (fun W=>abs_any b hb W)
 have HB:=hid hb
 replace hT:=hid hT
 clear hb
 go_enter Tryz.func47,Tryz.ntmps47
 go_wp2_with (first
  |(go_at_call 87;go_loud (refine (WO.out _).mono ?_;rintro e w1 ⟨rfl,hown,hb1⟩))
  |(at_range;refine wpList_range_own _ rfl _ 144 rfl 9 61 (Maps.string_keyed Tryz.underlying9) Tryz.underlying144 floatElem w.heap.size 5 wordsD rfl hown ?_;intro w0 hrg0 hg0 hs0))
 go_frame
 have hz1:=hb1.size
 have hb0:Below w.heap.size w w0:=hb1.grown hg0 hz1 (fun r e=>by cases e)
 go_loopw [3,4] (fun _ _ wr=>∃(left:Lit→Bool) (cnt:Nat),wr.ranges Tryz.prog 9 floatElem w.heap.size w1.heap.size 5 wordsD left cnt∧Below w.heap.size w wr∧∀p∈wordsL,left (sB p.1)=false→keyI p.2≠keyI b) (fun _ _ wr=>wr.rangeLeft w.heap.size w1.heap.size)
 case atStart=>exact ⟨_,_,hrg0,hb0,fun p hp h=>by rw [has_words hp] at h;cases h⟩
 case round=>
  obtain ⟨left,cnt,hrg,hbw,hno⟩:=hrel
  have HNO:=hid hno
  have HBW:=hid hbw
  have hz2:=hbw.size
  clear hno hbw
  go_wp2_with (at_next;refine wpList_next_ranges _ rfl _ rfl 9 (Maps.string_keyed Tryz.underlying9) floatElem Value.string (Value.float .f64) inv_str inv_flt w.heap.size w1.heap.size 5 wordsD left cnt rfl hrg ?_ ?_)
  ·intro hc0 hl0
   obtain ⟨n1,n2,n3⟩:=key_other (b:=b) (fun p hp=>HNO.out p hp (hl0 _))
   have hfin:=text_fin n1 n2 n3
   have hlt:=lt_zero n1 n2
   have hlz:=ord_lt b 0
   rw [hlt] at hlz
   obtain ⟨r,hr⟩:∃r,b % 2^63=r:=⟨_,rfl⟩
   rw [hr] at AB n2 n3 hfin
   have hrep:=Rep.of n2 n3
   obtain ⟨K,hK⟩:∃K,fK r=K:=⟨_,rfl⟩
   obtain ⟨M,hM⟩:∃M,fM r=M:=⟨_,rfl⟩
   rw [hK,hM] at hrep hfin
   obtain ⟨s,m,hm,m1,m2,HF⟩:=frexp_any hrep
   have hM0:=hrep.pos
   have hK2:=hrep.fin
   obtain ⟨t1,t2⟩:=tz_up s M hM0
   rw [←hm] at t1 t2
   have hz:=tz_pow (show 0<m by omega) m2
   have hs53:s≤53:=by omega
   have q1:(m:Int)/2^(tz m)=(oddM m:Int):=by
    unfold oddM
    simp
   have hom:oddM m≤m:=oddM_le m
   have hop:0<oddM m:=by
    have:=(tz_spec m (by omega)).2
    unfold oddM
    refine Nat.pos_of_ne_zero fun h=> ?_
    rw [h] at this
    cases this
   obtain ⟨Z,hZ⟩:∃Z,tz m=Z:=⟨_,rfl⟩
   obtain ⟨O,hO⟩:∃O,oddM m=O:=⟨_,rfl⟩
   rw [←t2,hO] at hfin
   obtain ⟨e,he⟩:∃e:Int,(K:Int)-s-1021=e:=⟨_,rfl⟩
   have e1:(K:Int)-1074+tz M=e-53+Z:=by omega
   rw [e1] at hfin
   rw [he] at HF
   have e2: -3000≤e∧e≤3000:=by omega
   have e3:(Z:Int)≤53:=by omega
   rw [hZ,hO] at q1
   rw [hO] at hom hop
   have HTZ:=hid (fun W (h:Tabs W)=>tz_is m (by omega) (by omega) W h.tz)
   have HU:=hid (fun W (h:Tabs W)=>formatUint_any O hop (by omega) W h.dig)
   have HI:=hid (fun W (h:Tabs W)=>itoa_any (e-53+Z) (by omega) (by omega) W h.dig)
   have l1:=dec_20 (n:=O) (by omega)
   have l2:=itoa_21 (n:=e-53+Z) (by omega)
   have HLD:=hid (fun W=>ldexp_53 m1 m2 W)
   have HCV:∀W:World,(convert 61 95 (.float .f64 (1074*2^52+m))).run Tryz.prog W= .ok (.int .u64 (m:Int)) W:=fun W=>conv_53 m1 m2 W
   rw [hZ] at HTZ
   have HFR:=hid HF
   have HAB:=hid AB.out
   obtain ⟨F1,hF1⟩:∃F,1021*2^52+m=F:=⟨_,rfl⟩
   obtain ⟨F2,hF2⟩:∃F,1074*2^52+m=F:=⟨_,rfl⟩
   rw [hF1] at HFR HLD
   rw [hF2] at HLD HCV
   have hTT:∀W,Below w.heap.size w W→Tabs W:=fun W h=>hT.out.below h (Nat.le_refl _)
   replace hTT:=hid hTT
   obtain ⟨R1,hR1⟩:∃R1,decDigits O=R1:=⟨_,rfl⟩
   obtain ⟨R2,hR2⟩:∃R2,itoa (e-53+Z)=R2:=⟨_,rfl⟩
   rw [hR1] at HU l1 hfin;rw [hR2] at HI l2 hfin
   replace hfin:=hid hfin
   obtain ⟨mi,hmi⟩:∃mi:Int,(m:Int)=mi:=⟨_,rfl⟩
   rw [hmi] at q1 HTZ HCV
   clear hR1 hR2 hF1 hF2 HF AB m1 m2 hm t1 t2 hz hs53 hK2 hM0 hrep hK hM hr n1 n2 n3 hlt HNO hl0 hc0 hrg e1 he hZ hO SA WO HB hmi hT hom hop
   cases hs:sgn b
   ·rw [hs] at hfin hlz
    go_wp2_with (first
     |(go_at_call 90;go_loud ((with_reducible refine (HAB.out _).mono ?_);rintro e w2 ⟨rfl,rfl⟩))
     |(go_at_call 89;go_loud ((with_reducible refine (HFR.out _).mono ?_);rintro e w2 ⟨rfl,rfl⟩))
     |(go_at_call 91;go_loud ((with_reducible refine (HLD.out _).mono ?_);rintro e w2 ⟨rfl,rfl⟩))
     |(go_at_call 92;go_loud ((with_reducible refine (HTZ.out _ (hTT.out _ HBW.out)).mono ?_);rintro e w2 ⟨rfl,rfl⟩))
     |(go_at_call 85;go_loud ((with_reducible refine (HU.out _ (hTT.out _ HBW.out)).mono ?_);rintro e w3 ⟨rfl,hw3⟩))
     |(go_at_call 44;go_loud ((with_reducible refine (HI.out _ (hTT.out _ (by have:=HBW.out;exact Gr))).mono ?_);rintro e w4 ⟨rfl,hw4⟩)))
    go_ret
    exact ⟨by rw [hfin.out];exact congrArg Ending.returned (join3 R1 R2),by have:=HBW.out;exact Gr⟩
   ·rw [hs] at hfin hlz
    go_wp2_with (first
     |(go_at_call 90;go_loud ((with_reducible refine (HAB.out _).mono ?_);rintro e w2 ⟨rfl,rfl⟩))
     |(go_at_call 89;go_loud ((with_reducible refine (HFR.out _).mono ?_);rintro e w2 ⟨rfl,rfl⟩))
     |(go_at_call 91;go_loud ((with_reducible refine (HLD.out _).mono ?_);rintro e w2 ⟨rfl,rfl⟩))
     |(go_at_call 92;go_loud ((with_reducible refine (HTZ.out _ (hTT.out _ HBW.out)).mono ?_);rintro e w2 ⟨rfl,rfl⟩))
     |(go_at_call 85;go_loud ((with_reducible refine (HU.out _ (hTT.out _ HBW.out)).mono ?_);rintro e w3 ⟨rfl,hw3⟩))
     |(go_at_call 44;go_loud ((with_reducible refine (HI.out _ (hTT.out _ (by have:=HBW.out;exact Gr))).mono ?_);rintro e w4 ⟨rfl,hw4⟩)))
    go_ret
    exact ⟨by rw [hfin.out];exact congrArg Ending.returned (joinN R1 R2),by have:=HBW.out;exact Gr⟩
  ·intro x c kl y ps w2 cnt2 hkey hlk hel hat hrg2 hlt hg2 hs2 hen
   have hy:y= .lit (.int .u64 c):=flt_of c (y,ps) hel
   rw [hy] at hat
   obtain ⟨p,hp,hkp,rfl⟩:=word_at hat
   have hkx:=key_str x kl hkey
   have hx:x.data.toList=p.1:=(Lit.string.inj ((hkx.symm).trans hkp))
   have hbw2:Below w.heap.size w w2:=HBW.out.grown hg2 hz2 (fun r e=>by cases e;exact hz1)
   have S1:=hid (SA.out p.2 (words_lt hp) w2)
   have HX:=hid hx;have HP:=hid hp;have HK:=hid hkp;have HW2:=hid hbw2
   clear hat hkx hx hbw2 hy hel hkey hp hkp
   by_cases hk:keyI p.2=keyI b
   ·have hd:decide (keyI p.2=keyI b)=true:=by simp [hk]
    rw [hd] at S1
    have HKE:=hid hk
    have HTX:=hid (key_text HP.out HKE.out)
    clear hd hk
    generalize p.2=pv at*
    go_wp2_with (go_at_call 88;go_loud ((with_reducible refine S1.out.mono ?_);rintro e w3 ⟨rfl,hw3⟩))
    go_ret
    exact ⟨by rw [HTX.out,strL_of HX.out];rfl,by have:=HW2.out;exact Gr⟩
   ·have hd:decide (keyI p.2=keyI b)=false:=by simp [hk]
    rw [hd] at S1
    have HKE:=hid hk
    clear hd hk
    go_wp2_with (go_at_call 88;go_loud ((with_reducible refine S1.out.mono ?_);rintro e w3 ⟨rfl,hw3⟩))
    go_roundw
    case rel=>
     refine ⟨_,cnt2,hrg2.kept (below_none hw3) (by simp) (by simp),by have:=HW2.out;exact Gr,fun q hq h=> ?_⟩
     cases hlq:left (sB q.1)
     ·exact HNO.out q hq hlq
     ·rw [hlq] at h
      have hsk:(sB q.1).sameKey kl=true:=by simpa using h
      have hqk:=WideAt.sameKey_eq hsk
      rw [HK.out] at hqk
      have hqp:q.1=p.1:=Lit.string.inj hqk
      have:q.2=p.2:=words_fun hq HP.out hqp
      rw [this]
      exact HKE.out
    case measure=>rw [(hrg2.kept (below_none hw3) (by simp) (by simp)).left_eq,hrg.left_eq];exact hlt
attribute [local go_sem] ord_lt ord_eq ord_gt ord_ne
theorem ofR_top {A n:Nat} (hA:A<2^128) (hA0:0<A) (hn:0<n) (hn2:n≤20000000000):ofR A n<2^63:=by
 have:=(ofR_lt hA0 hA hn (by omega)).2
 omega
theorem ofF_main {a n:Int} (h0:a≠0) (h1:0<n) (h2:n≤20000000000):ofF a n=Ieee.double.word (decide (a<0)) (ofR a.natAbs n.toNat):=by
 unfold ofF
 rw [of_good (by omega) h2,if_neg (by simp),if_neg (by omega),if_neg h0]
theorem ofF_lt {a n:Int} (ha:I128 a):ofF a n<2^64:=by
 by_cases hb:n<0∨20000000000<n
 ·unfold ofF;rw [of_bad hb,if_pos rfl];decide
 ·by_cases h0:n=0
  ·subst h0
   unfold ofF
   rw [of_good (by decide) (by decide),if_neg (by simp),if_pos rfl]
   split
   ·decide
   ·exact (word_mod _ (by decide)).2.2
  ·by_cases ha0:a=0
   ·unfold ofF
    rw [of_good (by omega) (by omega),if_neg (by simp),if_neg h0,if_pos ha0]
    decide
   ·rw [ofF_main ha0 (by omega) (by omega)]
    exact (word_mod _ (ofR_top (by omega) (by omega) (by omega) (by omega))).2.2
theorem self_same (F:Nat) (h:F<2^64) (w:World):Calls Tryz.prog 199 #[.float .f64 F,.float .f64 F] w fun e w'=>e= .returned (.bool true)∧w=w':=by
 have:=rsame_any F F h h w
 rw [show decide (keyI F=keyI F)=true by simp] at this
 exact this.mono fun e w' h=>⟨h.1,h.2.symm⟩
structure GoodC {α:Type} (D:α→Prop) (c:α→α→Int):Prop where
 self:∀x,D x→c x x=0
 anti:∀x y,D x→D y→c y x= - c x y
 le:∀x y z,D x→D y→D z→c x y≤0→c y z≤0→c x z≤0
theorem GoodC.lt {α:Type} {D:α→Prop} {c:α→α→Int} (h:GoodC D c) {x y z:α} (hx:D x) (hy:D y) (hz:D z) (h1:c x y<0) (h2:c y z≤0):c x z<0:=by
 have h3:=h.le x y z hx hy hz (by omega) h2
 by_cases e:c x z=0
 ·exfalso
  have h4:=h.anti x z hx hz
  have h5:=h.le y z x hy hz hx h2 (by omega)
  have h6:=h.anti x y hx hy
  omega
 ·omega
theorem GoodC.lt' {α:Type} {D:α→Prop} {c:α→α→Int} (h:GoodC D c) {x y z:α} (hx:D x) (hy:D y) (hz:D z) (h1:c x y≤0) (h2:c y z<0):c x z<0:=by
 have h3:=h.le x y z hx hy hz h1 (by omega)
 by_cases e:c x z=0
 ·exfalso
  have h4:=h.anti x z hx hz
  have h5:=h.le z x y hz hx hy (by omega) h1
  have h6:=h.anti y z hy hz
  omega
 ·omega
theorem GoodC.turn {α:Type} {D:α→Prop} {c:α→α→Int} (h:GoodC D c):GoodC D (fun x y=> - c x y):=by
 refine ⟨fun x hx=>by rw [h.self x hx];rfl,fun x y hx hy=>by rw [h.anti x y hx hy],fun x y z hx hy hz h1 h2=> ?_⟩
 have a1:=h.anti x y hx hy;have a2:=h.anti y z hy hz;have a3:=h.anti x z hx hz
 have:=h.le z y x hz hy hx (by omega) (by omega)
 omega
theorem GoodC.zero {α:Type} (D:α→Prop):GoodC D (fun _ _=>0):=⟨fun _ _=>rfl,fun _ _ _ _=>rfl,fun _ _ _ _ _ _ _ _=>Int.le_refl 0⟩
theorem GoodC.lex {α:Type} {D:α→Prop} {c d:α→α→Int} (h:GoodC D c) (k:GoodC D d):GoodC D (fun x y=>if c x y=0 then d x y else c x y):=by
 refine ⟨fun x hx=>by simp [h.self x hx,k.self x hx],fun x y hx hy=> ?_,fun x y z hx hy hz h1 h2=> ?_⟩
 ·have a1:=h.anti x y hx hy
  have a2:=k.anti x y hx hy
  simp only [a1]
  by_cases h0:c x y=0
  ·rw [if_pos h0,if_pos (by omega),a2]
  ·rw [if_neg h0,if_neg (by omega)]
 ·have a1:=h.anti x y hx hy;have a2:=h.anti y z hy hz
  by_cases e1:c x y=0
  ·rw [if_pos e1] at h1
   by_cases e2:c y z=0
   ·rw [if_pos e2] at h2
    have e3:c x z=0:=by
     have l1:=h.le x y z hx hy hz (by omega) (by omega)
     have l2:=h.le z y x hz hy hx (by omega) (by omega)
     have:=h.anti x z hx hz
     omega
    rw [if_pos e3]
    exact k.le x y z hx hy hz h1 h2
   ·rw [if_neg e2] at h2
    have:=h.lt' hx hy hz (show c x y≤0 by omega) (show c y z<0 by omega)
    rw [if_neg (by omega)]
    omega
  ·rw [if_neg e1] at h1
   have h3:c y z≤0:=by
    by_cases e2:c y z=0
    ·omega
    ·rw [if_neg e2] at h2;omega
   have:=h.lt hx hy hz (show c x y<0 by omega) h3
   rw [if_neg (by omega)]
   omega
theorem GoodC.of {α β:Type} {D:α→Prop} {E:β→Prop} {c:β→β→Int} (h:GoodC E c) (f:α→β) (hf:∀x,D x→E (f x)):GoodC D (fun x y=>c (f x) (f y)):=
 ⟨fun x hx=>h.self _ (hf x hx),fun x y hx hy=>h.anti _ _ (hf x hx) (hf y hy),fun x y z hx hy hz=>h.le _ _ _ (hf x hx) (hf y hy) (hf z hz)⟩
theorem GoodC.mono {α:Type} {D E:α→Prop} {c:α→α→Int} (h:GoodC E c) (hf:∀x,D x→E x):GoodC D c:=h.of id hf
theorem sgn_good:GoodC (fun _:Int=>True) sgnI:=by
 refine ⟨fun x _=> ?_,fun x y _ _=> ?_,fun x y z _ _ _ h1 h2=> ?_⟩
 ·unfold sgnI;simp
 ·unfold sgnI;(repeat' split)<;>omega
 ·unfold sgnI at*;(repeat' split at h1)<;>(repeat' split at h2)<;>(repeat' split)<;>omega
theorem bytes_good:GoodC (fun _:List UInt8=>True) Lib.compareBytes:=by
 have anti:∀x y:List UInt8,Lib.compareBytes y x= - Lib.compareBytes x y:=by
  intro x
  induction x with
  |nil=>intro y;cases y<;>rfl
  |cons a l ih=>
   intro y
   cases y with
   |nil=>rfl
   |cons b m=>
    unfold Lib.compareBytes
    have:=ih m
    by_cases h1:a<b
    ·rw [if_pos h1,if_neg (UInt8.lt_asymm h1),if_pos h1];rfl
    ·by_cases h2:b<a
     ·rw [if_pos h2,if_neg h1,if_pos h2]
     ·rw [if_neg h2,if_neg h1,if_neg h1,if_neg h2];exact this
 refine ⟨fun x _=> ?_,fun x y _ _=>anti x y,fun x=> ?_⟩
 ·have:=anti x x;omega
 ·induction x with
  |nil=>intro y z _ _ _ _ _;cases z<;>simp [Lib.compareBytes]
  |cons a l ih=>
   intro y z _ _ _ h1 h2
   cases y with
   |nil=>simp [Lib.compareBytes] at h1
   |cons b m=>
    cases z with
    |nil=>simp [Lib.compareBytes] at h2
    |cons c n=>
     unfold Lib.compareBytes at h1 h2 ⊢
     have ih':=ih m n trivial trivial trivial
     simp only [UInt8.lt_iff_toNat_lt] at*
     by_cases p1:a.toNat<b.toNat
     ·by_cases q1:b.toNat<c.toNat
      ·rw [if_pos (by omega)];decide
      ·rw [if_neg q1] at h2
       by_cases q2:c.toNat<b.toNat
       ·rw [if_pos q2] at h2;omega
       ·rw [if_pos (by omega)];decide
     ·rw [if_neg p1] at h1
      by_cases p2:b.toNat<a.toNat
      ·rw [if_pos p2] at h1;omega
      ·rw [if_neg p2] at h1
       by_cases q1:b.toNat<c.toNat
       ·rw [if_pos (by omega)];decide
       ·rw [if_neg q1] at h2
        by_cases q2:c.toNat<b.toNat
        ·rw [if_pos q2] at h2;omega
        ·rw [if_neg q2] at h2
         rw [if_neg (by omega),if_neg (by omega)]
         exact ih' h1 h2
theorem val_good:GoodC (fun _:ValD=>True) cmpV:=by
 have hb:=bytes_good
 refine ⟨fun x _=> ?_,fun x y _ _=> ?_,fun x y z _ _ _ h1 h2=> ?_⟩
 ·unfold cmpV cmpS
  have:=hb.self x.s.data.toList trivial
  cases x.nl<;>simp [this]
 ·unfold cmpV cmpS
  have:=hb.anti x.s.data.toList y.s.data.toList trivial trivial
  cases x.nl<;>cases y.nl<;>simp [this]
 ·unfold cmpV cmpS at*
  have:=hb.le x.s.data.toList y.s.data.toList z.s.data.toList trivial trivial trivial
  cases hx:x.nl<;>cases hy:y.nl<;>cases hz:z.nl<;>simp_all
structure NumD where
 n:Int
 fl:Bool
 f:Nat
def NumD.cells (v:NumD):List Value:=[.bool v.fl,.int .i64 v.n,.float .f64 v.f]
def floatD (v:NumD):Nat:=if v.fl then v.f else ofF v.n 1
def cmpN (a b:NumD):Int:=if a.fl||b.fl then sgnI (keyI (floatD a)) (keyI (floatD b)) else sgnI a.n b.n
theorem num_good (p:Bool):GoodC (fun v:NumD=>v.fl=p) cmpN:=by
 cases p
 ·have h:=(sgn_good.of (D:=fun v:NumD=>v.fl=false) (fun v=>v.n) (fun _ _=>trivial))
  have key:∀x y:NumD,x.fl=false→y.fl=false→cmpN x y=sgnI x.n y.n:=fun x y hx hy=>by unfold cmpN;rw [hx,hy];rfl
  refine ⟨fun x hx=>by rw [key x x hx hx];exact h.self x hx,fun x y hx hy=>by rw [key x y hx hy,key y x hy hx];exact h.anti x y hx hy,fun x y z hx hy hz h1 h2=> ?_⟩
  rw [key x y hx hy] at h1;rw [key y z hy hz] at h2;rw [key x z hx hz]
  exact h.le x y z hx hy hz h1 h2
 ·have h:=(sgn_good.of (D:=fun v:NumD=>v.fl=true) (fun v=>keyI (floatD v)) (fun _ _=>trivial))
  have key:∀x y:NumD,x.fl=true→y.fl=true→cmpN x y=sgnI (keyI (floatD x)) (keyI (floatD y)):=fun x y hx hy=>by unfold cmpN;rw [hx,hy];rfl
  refine ⟨fun x hx=>by rw [key x x hx hx];exact h.self x hx,fun x y hx hy=>by rw [key x y hx hy,key y x hy hx];exact h.anti x y hx hy,fun x y z hx hy hz h1 h2=> ?_⟩
  rw [key x y hx hy] at h1;rw [key y z hy hz] at h2;rw [key x z hx hz]
  exact h.le x y z hx hy hz h1 h2
structure KeyD where
 agg:Bool
 pos:Int
 desc:Bool
def KeyD.cells (k:KeyD):List Value:=[.bool k.agg,.int .i64 k.pos,.bool k.desc]
structure LineD where
 key:List ValD
 nums:List NumD
def lessV (x y:ValD):Bool:=decide (cmpV x y<0)
theorem lessL_one (x y:ValD):lessL [x] [y]=lessV x y:=by
 unfold lessL lessV cmpL
 by_cases h:cmpV x y=0
 ·rw [if_pos h,h];rfl
 ·rw [if_neg h]
def byP (k:KeyD) (a b:LineD):Int:=
 if k.agg then (if h:0≤k.pos∧k.pos.toNat<a.nums.length∧k.pos.toNat<b.nums.length then cmpN a.nums[k.pos.toNat] b.nums[k.pos.toNat] else 0)
 else (if h:0≤k.pos∧k.pos.toNat<a.key.length∧k.pos.toNat<b.key.length then cmpV a.key[k.pos.toNat] b.key[k.pos.toNat] else 0)
def byI (k:KeyD) (a b:LineD):Int:=if k.desc then-byP k a b else byP k a b
def cmpK:List KeyD→LineD→LineD→Int
 |[],_,_=>0
 |k::ks,a,b=>if byI k a b=0 then cmpK ks a b else byI k a b
def FormL (n:Nat) (fs:List Bool) (l:LineD):Prop:=l.key.length=n∧l.nums.map NumD.fl=fs
theorem byP_good (k:KeyD) (n:Nat) (fs:List Bool):GoodC (FormL n fs) (byP k):=by
 have hlen:∀{l},FormL n fs l→l.nums.length=fs.length:=fun h=>by rw [←h.2,List.length_map]
 cases hk:k.agg
 ·by_cases hp:0≤k.pos∧k.pos.toNat<n
  ·have h:=val_good.of (D:=FormL n fs) (fun l=>l.key[k.pos.toNat]?.getD ⟨⟨#[]⟩,false⟩) (fun _ _=>trivial)
   have key:∀x y,FormL n fs x→FormL n fs y→byP k x y=cmpV (x.key[k.pos.toNat]?.getD ⟨⟨#[]⟩,false⟩) (y.key[k.pos.toNat]?.getD ⟨⟨#[]⟩,false⟩):=fun x y hx hy=>by
    have l1:k.pos.toNat<x.key.length:=by rw [hx.1];exact hp.2
    have l2:k.pos.toNat<y.key.length:=by rw [hy.1];exact hp.2
    unfold byP
    rw [hk,if_neg (by simp),dif_pos ⟨hp.1,l1,l2⟩,List.getElem?_eq_getElem l1,List.getElem?_eq_getElem l2]
    rfl
   refine ⟨fun x hx=>by rw [key x x hx hx];exact h.self x hx,fun x y hx hy=>by rw [key x y hx hy,key y x hy hx];exact h.anti x y hx hy,fun x y z hx hy hz h1 h2=> ?_⟩
   rw [key x y hx hy] at h1;rw [key y z hy hz] at h2;rw [key x z hx hz]
   exact h.le x y z hx hy hz h1 h2
  ·have key:∀x y,FormL n fs x→FormL n fs y→byP k x y=0:=fun x y hx hy=>by
    unfold byP
    rw [hk,if_neg (by simp),dif_neg (fun h=>hp ⟨h.1,by rw [←hx.1];exact h.2.1⟩)]
   exact ⟨fun x hx=>key x x hx hx,fun x y hx hy=>by rw [key x y hx hy,key y x hy hx];rfl,fun x y z hx hy hz _ _=>by rw [key x z hx hz];exact Int.le_refl 0⟩
 ·by_cases hp:0≤k.pos∧k.pos.toNat<fs.length
  ·have h:=(num_good (fs[k.pos.toNat]'hp.2)).of (D:=FormL n fs) (fun l=>l.nums[k.pos.toNat]?.getD ⟨0,fs[k.pos.toNat]'hp.2,0⟩) (fun l hl=>by
    have hl1:k.pos.toNat<l.nums.length:=by rw [hlen hl];exact hp.2
    rw [List.getElem?_eq_getElem hl1]
    have e:(l.nums.map NumD.fl)[k.pos.toNat]? =fs[k.pos.toNat]? :=by rw [hl.2]
    rw [List.getElem?_map,List.getElem?_eq_getElem hl1,List.getElem?_eq_getElem hp.2] at e
    exact Option.some.inj e)
   have key:∀x y,FormL n fs x→FormL n fs y→byP k x y=cmpN (x.nums[k.pos.toNat]?.getD ⟨0,fs[k.pos.toNat]'hp.2,0⟩) (y.nums[k.pos.toNat]?.getD ⟨0,fs[k.pos.toNat]'hp.2,0⟩):=fun x y hx hy=>by
    have l1:k.pos.toNat<x.nums.length:=by rw [hlen hx];exact hp.2
    have l2:k.pos.toNat<y.nums.length:=by rw [hlen hy];exact hp.2
    unfold byP
    rw [hk,if_pos rfl,dif_pos ⟨hp.1,l1,l2⟩,List.getElem?_eq_getElem l1,List.getElem?_eq_getElem l2]
    rfl
   refine ⟨fun x hx=>by rw [key x x hx hx];exact h.self x hx,fun x y hx hy=>by rw [key x y hx hy,key y x hy hx];exact h.anti x y hx hy,fun x y z hx hy hz h1 h2=> ?_⟩
   rw [key x y hx hy] at h1;rw [key y z hy hz] at h2;rw [key x z hx hz]
   exact h.le x y z hx hy hz h1 h2
  ·have key:∀x y,FormL n fs x→FormL n fs y→byP k x y=0:=fun x y hx hy=>by
    unfold byP
    rw [hk,if_pos rfl,dif_neg (fun h=>hp ⟨h.1,by rw [←hlen hx];exact h.2.1⟩)]
   exact ⟨fun x hx=>key x x hx hx,fun x y hx hy=>by rw [key x y hx hy,key y x hy hx];rfl,fun x y z hx hy hz _ _=>by rw [key x z hx hz];exact Int.le_refl 0⟩
theorem byI_good (k:KeyD) (n:Nat) (fs:List Bool):GoodC (FormL n fs) (byI k):=by
 have h:=byP_good k n fs
 unfold byI
 cases k.desc
 ·exact h
 ·exact h.turn
theorem cmpK_good (ks:List KeyD) (n:Nat) (fs:List Bool):GoodC (FormL n fs) (cmpK ks):=by
 induction ks with
 |nil=>exact GoodC.zero _
 |cons k ks ih=>exact (byI_good k n fs).lex ih
attribute [local go_sem] ord_lt ord_eq ord_gt ord_ne
theorem run_store_float (P:Program) (w:World) (a:Addr) (k:FloatKind) (n:Nat) (m:Mode):(store a (.float k n) m).run P w=stored P w a (.float k n) m:=run_store P w a _ m rfl
theorem run_equalIn_float (P:Program) (w:World) (d:Nat) (t:TypeId) (k:FloatKind) (a b:Nat) (h:P.underlying t=some (.float k)):(Op.equalIn (d+1) t (.float k a) (.float k b)).run P w= .ok (k.format.order a b==some .eq) w:=by
 simp [Op.equalIn,run_underlying h]
 rfl
attribute [local go_sem] run_store_float run_equalIn_float
def NumOk (v:NumD):Prop:=I64 v.n∧v.f<2^64
theorem i128_64 {n:Int} (h:I64 n):I128 n:=by unfold I64 at h;exact ⟨by omega,by omega⟩
theorem floatD_lt {v:NumD} (h:NumOk v):floatD v<2^64:=by
 unfold floatD
 split
 ·exact h.2
 ·exact ofF_lt (i128_64 h.1)
theorem float_num (v:NumD) (h:NumOk v) (w:World):Calls Tryz.prog 50 #[.agg #[.bool v.fl,.int .i64 v.n,.float .f64 v.f]] w fun e w'=>e= .returned (.float .f64 (floatD v))∧Below w.heap.size w w':=by
 obtain ⟨n,fl,f⟩:=v
 have O1:=hid (fun W=>of_any n h.1 W)
 have F1:=hid (fun W=>ratio_float n (i128_64 h.1) W)
 obtain ⟨v1,hv1⟩:∃v,(Value.agg #[.int .i64 (hiW (n)),.int .u64 (loW (n))])=v:=⟨_,rfl⟩
 rw [hv1] at O1 F1
 clear hv1
 unfold floatD
 dsimp only
 cases fl
 ·rw [if_neg (by simp)]
  generalize ofF n 1=F at*
  clear h
  cases hq:eqB f 0
  all_goals
   have hE:=ord_eq f 0
   rw [hq] at hE
   clear hq
   go_enter Tryz.func50,Tryz.ntmps50
   go_wp2_with (first
    |(go_at_call 100;go_loud ((with_reducible refine (O1.out _).mono ?_);rintro e w1 ⟨rfl,hb1⟩))
    |(go_at_call 99;go_loud ((with_reducible refine (F1.out _).mono ?_);rintro e w2 ⟨rfl,hb2⟩)))
   go_ret
   exact ⟨rfl,Gr⟩
 ·rw [if_pos rfl]
  clear h
  go_enter Tryz.func50,Tryz.ntmps50
  go_wp2
  go_ret
  exact ⟨rfl,Gr⟩
theorem cmp_float_core (fl gl:Bool) (n m:Int) (f g F G:Nat) (y:Int)
  (FA:Hid (∀W,Calls Tryz.prog 50 #[.agg #[.bool fl,.int .i64 n,.float .f64 f]] W fun e w'=>e= .returned (.float .f64 F)∧Below W.heap.size W w'))
  (CF:Hid (∀W,Calls Tryz.prog 49 #[.float .f64 F,.float .f64 G] W fun e w'=>e= .returned (.int .i64 y)∧Below W.heap.size W w'))
  (FB:Hid (∀W,Calls Tryz.prog 50 #[.agg #[.bool gl,.int .i64 m,.float .f64 g]] W fun e w'=>e= .returned (.float .f64 G)∧Below W.heap.size W w'))
  (h:(fl||gl)=true) (w:World):
  Calls Tryz.prog 21 #[.agg #[.bool fl,.int .i64 n,.float .f64 f],.agg #[.bool gl,.int .i64 m,.float .f64 g]] w fun e w'=>e= .returned (.int .i64 y)∧Below w.heap.size w w':=by
 obtain ⟨X,hX⟩:∃X,(w.alloc (.cells #[.bool fl,.int .i64 n,.float .f64 f] 63)).alloc (.cells #[.bool gl,.int .i64 m,.float .f64 g] 63)=X:=⟨_,rfl⟩
 have hB:Below w.heap.size w X:=by rw [←hX];exact Gr
 have a0:X.cell? ⟨w.heap.size,0,none⟩=some (.bool fl):=by subst hX;go_simp
 have a1:X.cell? ⟨w.heap.size,1,none⟩=some (.int .i64 n):=by subst hX;go_simp
 have a2:X.cell? ⟨w.heap.size,2,none⟩=some (.float .f64 f):=by subst hX;go_simp
 have b0:X.cell? ⟨w.heap.size+1,0,none⟩=some (.bool gl):=by subst hX;go_simp
 have b1:X.cell? ⟨w.heap.size+1,1,none⟩=some (.int .i64 m):=by subst hX;go_simp
 have b2:X.cell? ⟨w.heap.size+1,2,none⟩=some (.float .f64 g):=by subst hX;go_simp
 have p0:=World.plus_cell a0;have p1:=World.plus_cell a1;have p2:=World.plus_cell a2
 have q0:=World.plus_cell b0;have q1:=World.plus_cell b1;have q2:=World.plus_cell b2
 go_enter Tryz.func21,Tryz.ntmps21
 cases fl
 ·have hgl:gl=true:=h
  subst hgl
  go_wp2_with fail
  try rw [hX]
  clear hX a0 a1 a2 b0 b1 b2
  refine wp_region_plus (by kernel_rfl) (by kernel_rfl) ?_
  repeat (first|go_big_quiet_skip|(go_big_quiet_want;go_big_quiet_op;first|go_big_quiet_on|go_big_quiet_call ((first|(go_at_call 50;first|(with_reducible exact Calls.plus_of (FA.out _))|(with_reducible exact Calls.plus_of (FB.out _)))|(go_at_call 49;exact Calls.plus_of (CF.out _))))))
  refine wpQuiet_nil ?_
  rintro _ ⟨xq,rfl⟩
  have kB:=World.plus_below X xq
  go_wp2
  go_ret
  exact ⟨rfl,hB.trans (kB.mono hB.size)⟩
 ·go_wp2_with fail
  try rw [hX]
  clear hX a0 a1 a2 b0 b1 b2
  refine wp_region_plus (by kernel_rfl) (by kernel_rfl) ?_
  repeat (first|go_big_quiet_skip|(go_big_quiet_want;go_big_quiet_op;first|go_big_quiet_on|go_big_quiet_call ((first|(go_at_call 50;first|(with_reducible exact Calls.plus_of (FA.out _))|(with_reducible exact Calls.plus_of (FB.out _)))|(go_at_call 49;exact Calls.plus_of (CF.out _))))))
  refine wpQuiet_nil ?_
  rintro _ ⟨xq,rfl⟩
  have kB:=World.plus_below X xq
  go_wp2
  go_ret
  exact ⟨rfl,hB.trans (kB.mono hB.size)⟩
theorem compare_num (a b:NumD) (ha:NumOk a) (hb:NumOk b) (w:World):
  Calls Tryz.prog 21 #[.agg #[.bool a.fl,.int .i64 a.n,.float .f64 a.f],.agg #[.bool b.fl,.int .i64 b.n,.float .f64 b.f]] w fun e w'=>e= .returned (.int .i64 (cmpN a b))∧Below w.heap.size w w':=by
 have FA:=hid (fun W=>float_num a ha W);have FB:=hid (fun W=>float_num b hb W)
 have CF:=hid (fun W=>rtCompare_any (floatD a) (floatD b) (floatD_lt ha) (floatD_lt hb) W)
 have CI:=hid (fun W=>cmp_i a.n b.n W)
 obtain ⟨n,fl,f⟩:=a
 obtain ⟨m,gl,g⟩:=b
 unfold cmpN
 dsimp only at FA FB CI ⊢
 generalize sgnI n m=z at*
 generalize sgnI (keyI (floatD ⟨n,fl,f⟩)) (keyI (floatD ⟨m,gl,g⟩))=y at*
 generalize floatD ⟨n,fl,f⟩=F at*;generalize floatD ⟨m,gl,g⟩=G at*
 clear ha hb
 by_cases hfl:(fl||gl)=true
 ·rw [if_pos hfl]
  have hcase:fl=true∨(fl=false∧gl=true):=by cases fl<;>simp_all
  clear hfl
  rcases hcase with rfl|⟨rfl,rfl⟩
  ·exact cmp_float_core true gl n m f g F G y FA CF FB rfl w
  ·exact cmp_float_core false true n m f g F G y FA CF FB rfl w
 ·rw [if_neg hfl]
  have hcase:fl=false∧gl=false:=by cases fl<;>cases gl<;>simp_all
  obtain ⟨rfl,rfl⟩:=hcase
  clear hfl
  go_enter Tryz.func21,Tryz.ntmps21
  go_wp2_with (go_at_call 51;((with_reducible refine (CI.out _).mono ?_);rintro e w1 ⟨rfl,rfl⟩))
  go_ret
  exact ⟨rfl,Gr⟩
end Go.Proofs.YtejleplhmkmegaaGreatDoor
