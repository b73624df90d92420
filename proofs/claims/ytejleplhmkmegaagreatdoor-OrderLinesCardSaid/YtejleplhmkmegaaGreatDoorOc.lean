/- Texts joined: RolA, FlA, FlB, FlD, FlE, RtA, RtB, RtO, FlT, RtP, Seq, SeqF, FlC, FlQ, Blk. -/
import Derived.Test.YtejleplhmkmegaaGreatDoorOa
import Derived.Test.YtejleplhmkmegaaGreatDoorOb
import Derived.Lib.Bytealg
import Derived.Laws.FloatArith
import Derived.Laws.FloatBits
import Derived.Laws.Bits64b
import Derived.WalkLawsBesides
import Derived.Lib.ItoaNum
import Derived.Lib.ItoaMem
import Derived.Shelf.Spec.TrailingZeros
import Derived.RangeFuncNested
import Derived.RangeFuncBound
import Derived.RangeFuncCalls
import Derived.RangeFuncLeaves
import Derived.Shelf.Abstract
import Derived.Shelf.RegionOpen
import Derived.OwnWalkIn
import Derived.TacticsInMore
import Derived.LoopNIn
import Derived.LoopIn
set_option linter.unusedVariables false
set_option linter.unusedSimpArgs false
namespace Go.Proofs.YtejleplhmkmegaaGreatDoor
set_option maxRecDepth 100000
open Go.ChangeShapes Go.WideShapes Go.ChangeAt Go.RowKit
def cmpS (a b:ByteArray):Int:=Lib.compareBytes a.data.toList b.data.toList
theorem cmpB_is:∀(a b:List UInt8),Lib.compareBytes a b= -1∨Lib.compareBytes a b=0∨Lib.compareBytes a b=1
 |[],[]=> .inr (.inl rfl)
 |[],_::_=> .inl rfl
 |_::_,[]=> .inr (.inr rfl)
 |a::l,b::m=>by
  unfold Lib.compareBytes
  split
  ·exact .inl rfl
  ·split
   ·exact .inr (.inr rfl)
   ·exact cmpB_is l m
theorem cmpS_is (a b:ByteArray):cmpS a b= -1∨cmpS a b=0∨cmpS a b=1:=cmpB_is _ _
def cmpV (a b:ValD):Int:=if a.nl=true then (if b.nl=true then 0 else -1) else (if b.nl=true then 1 else cmpS a.s b.s)
theorem cmpV_is (a b:ValD):cmpV a b= -1∨cmpV a b=0∨cmpV a b=1:=by
 unfold cmpV
 (repeat' split)
 ·exact .inr (.inl rfl)
 ·exact .inl rfl
 ·exact .inr (.inr rfl)
 ·exact cmpS_is _ _
def cmpL:List ValD→List ValD→Int
 |[],[]=>0
 |[],_::_=> -1
 |_::_,[]=>1
 |a::l,b::m=>if cmpV a b=0 then cmpL l m else cmpV a b
def lessL (a b:List ValD):Bool:=decide (cmpL a b<0)
theorem compare_any (a b:ValD) (w:World):Calls Tryz.prog 213 #[.agg #[.string a.s,.bool a.nl],.agg #[.string b.s,.bool b.nl]] w fun e w'=>e= .returned (.int .i64 (cmpV a b))∧Below w.heap.size w w':=by
 obtain ⟨s,n⟩:=a
 obtain ⟨t,m⟩:=b
 cases n with
 |true=>
  cases m with
  |true=>
   have hc:Hid (cmpV ⟨s,true⟩ ⟨t,true⟩=0):=rfl
   rw [hc.out]
   go_enter Tryz.func213,Tryz.ntmps213
   go_wp2
   go_ret
   exact ⟨rfl,Gr⟩
  |false=>
   have hc:Hid (cmpV ⟨s,true⟩ ⟨t,false⟩= -1):=rfl
   rw [hc.out]
   go_enter Tryz.func213,Tryz.ntmps213
   go_wp2
   go_ret
   exact ⟨rfl,Gr⟩
 |false=>
  cases m with
  |true=>
   have hc:Hid (cmpV ⟨s,false⟩ ⟨t,true⟩=1):=rfl
   rw [hc.out]
   go_enter Tryz.func213,Tryz.ntmps213
   go_wp2
   go_ret
   exact ⟨rfl,Gr⟩
  |false=>
   have hc:Hid (cmpV ⟨s,false⟩ ⟨t,false⟩=cmpS s t):=rfl
   rw [hc.out]
   have HC:=hid (fun W=>Tryz.strings_Compare s t W)
   rw [show Lib.compareBytes s.data.toList t.data.toList=cmpS s t from rfl] at HC
   generalize cmpS s t=r at*
   go_enter Tryz.func213,Tryz.ntmps213
   go_wp2_with (go_at_call 237;((with_reducible refine (HC.out _).mono ?_);rintro e w1 ⟨rfl,rfl⟩))
   go_ret
   exact ⟨rfl,Gr⟩
set_option maxHeartbeats 2000000 in
theorem compareFunc_any (va vb:Value) (a b:List ValD) (w:World) (ha:ValsSl w va a) (hb:ValsSl w vb b):
  Calls Tryz.prog 212 #[va,vb,.func (.func 213) #[] #[]] w fun e w'=>e= .returned (.int .i64 (cmpL a b))∧Below w.heap.size w w':=by
 obtain ⟨ao,ca,rfl,h1,h2,_,hA⟩:=ValsSl.parts ha
 obtain ⟨bo,cb,rfl,h3,h4,_,hB⟩:=ValsSl.parts hb
 have HA:=hid hA;have HB:=hid hB
 obtain ⟨R,hR⟩:∃R,cmpL a b=R:=⟨_,rfl⟩
 rw [hR]
 have hR0:cmpL (a.drop 0) (b.drop 0)=R:=hR
 have HR:=hid hR0
 obtain ⟨la,hla⟩:∃n,a.length=n:=⟨_,rfl⟩
 obtain ⟨lb,hlb⟩:∃n,b.length=n:=⟨_,rfl⟩
 have HLA:=hid hla;have HLB:=hid hlb
 rw [hla] at h1 ⊢
 rw [hlb] at h3 ⊢
 unfold maxLen at h2 h4
 clear hA hB ha hb hR hR0 hla hlb
 go_enter Tryz.func212,Tryz.ntmps212
 go_wp2
 go_loopw [13] (fun i wr=>∃k:Nat,k≤la∧k≤lb∧i= .int .i64 k∧cmpL (a.drop k) (b.drop k)=R∧Below w.heap.size w wr) (fun i _=>la-(intOf i).toNat)
 case atStart=>exact ⟨0,Nat.zero_le _,Nat.zero_le _,rfl,HR.out,Below.refl _ _⟩
 case round=>
  obtain ⟨k,hk,hkb,rfl,hrel,hbel⟩:=hrel
  have HREL:=hid hrel;have HBEL:=hid hbel
  clear hrel hbel
  by_cases hka:k<la
  ·have hlen:k<a.length:=by rw [HLA.out];exact hka
   obtain ⟨ba,oa,rfl,hca⟩:=HA.out (by omega)
   obtain ⟨c1,c2⟩:=hca k hlen
   have d1:=cell_step c1 HBEL.out
   have d2:=cell_step c2 HBEL.out
   have ea:a.drop k=a[k]::a.drop (k+1):=List.drop_eq_getElem_cons hlen
   clear hca c1 c2
   have g1:(0:Int)≤(k:Int):=Int.natCast_nonneg _
   have g2:(k:Int)<(la:Int):=by omega
   by_cases hkb2:k<lb
   ·have hlenb:k<b.length:=by rw [HLB.out];exact hkb2
    obtain ⟨bb,ob,rfl,hcb⟩:=HB.out (by omega)
    obtain ⟨c1,c2⟩:=hcb k hlenb
    have e1:=cell_step c1 HBEL.out
    have e2:=cell_step c2 HBEL.out
    have zb:=World.block_lt_of_cell? _ _ e1
    have eb:b.drop k=b[k]::b.drop (k+1):=List.drop_eq_getElem_cons hlenb
    have hstep:R=if cmpV a[k] b[k]=0 then cmpL (a.drop (k+1)) (b.drop (k+1)) else cmpV a[k] b[k]:=by rw [←HREL.out,ea,eb];simp only [cmpL]
    have HC:=hid (fun W=>compare_any a[k] b[k] W)
    have hci:=cmpV_is a[k] b[k]
    clear hcb c1 c2 ea eb
    generalize a[k]=x at*
    generalize b[k]=y at*
    have g3:(k:Int)<(lb:Int):=by omega
    have q1:x.s=x.s:=rfl
    generalize x.s=xs at*
    generalize x.nl=xn at*
    generalize y.s=ys at*
    generalize y.nl=yn at*
    generalize cmpV x y=r at*
    clear q1
    by_cases hr:r=0
    ·rw [if_pos hr] at hstep
     have HSTEP:=hid hstep.symm
     subst hr
     clear hci hstep
     go_wp2_with (go_at_call 213;((with_reducible refine (HC.out _).mono ?_);rintro e w2 ⟨rfl,hb2⟩;obtain ⟨hc2,hf2,hk2,hz2⟩:=bcell3 hb2;(try simp only [World.size_alloc,World.size_drew] at hz2)))
     go_roundw
     case rel=>exact ⟨k+1,hka,hkb2,by go_num,HSTEP.out,by have:=HBEL.out;exact Gr⟩
     case measure=>simp [intOf];omega
    ·rw [if_neg hr] at hstep
     have HSTEP:=hid hstep
     have hq:(r !=0)=true:=by simpa using hr
     clear hci hstep hr
     go_wp2_with (go_at_call 213;((with_reducible refine (HC.out _).mono ?_);rintro e w2 ⟨rfl,hb2⟩;obtain ⟨hc2,hf2,hk2,hz2⟩:=bcell3 hb2;(try simp only [World.size_alloc,World.size_drew] at hz2)))
     go_ret
     exact ⟨ret_int HSTEP.out.symm,by have:=HBEL.out;exact Gr⟩
   ·obtain rfl:k=lb:=by omega
    have eb:b.drop k=[]:=List.drop_eq_nil_of_le (by rw [HLB.out];omega)
    have hR1:R=1:=by rw [←HREL.out,ea,eb];rfl
    have HR1:=hid hR1
    clear ea eb hR1
    generalize a[k]=x at*
    go_wp2
    go_ret
    exact ⟨ret_int HR1.out.symm,by have:=HBEL.out;exact Gr⟩
  ·obtain rfl:k=la:=by omega
   have ea:a.drop k=[]:=List.drop_eq_nil_of_le (by rw [HLA.out];omega)
   by_cases hkb2:k<lb
   ·have hlenb:k<b.length:=by rw [HLB.out];exact hkb2
    have eb:b.drop k=b[k]::b.drop (k+1):=List.drop_eq_getElem_cons hlenb
    have HR1:Hid (R= -1):=by unfold Hid;rw [←HREL.out,ea,eb];rfl
    clear ea eb
    go_wp2
    go_ret
    exact ⟨ret_int HR1.out.symm,by have:=HBEL.out;exact Gr⟩
   ·obtain rfl:k=lb:=by omega
    have eb:b.drop k=[]:=List.drop_eq_nil_of_le (by rw [HLB.out];omega)
    have HR1:Hid (R=0):=by unfold Hid;rw [←HREL.out,ea,eb];rfl
    clear ea eb
    go_wp2
    go_ret
    exact ⟨ret_int HR1.out.symm,by have:=HBEL.out;exact Gr⟩
theorem less_any (va vb:Value) (a b:List ValD) (w:World) (ha:ValsSl w va a) (hb:ValsSl w vb b):
  Calls Tryz.prog 168 #[va,vb] w fun e w'=>e= .returned (.bool (lessL a b))∧Below w.heap.size w w':=by
 have HC:=hid (compareFunc_any va vb a b w ha hb)
 unfold lessL
 generalize cmpL a b=r at*
 obtain ⟨ao,ca,rfl,_⟩:=SlAt.shape ha
 obtain ⟨bo,cb,rfl,_⟩:=SlAt.shape hb
 clear ha hb
 go_enter Tryz.func168,Tryz.ntmps168
 go_wp2_with (go_at_call 212;((with_reducible refine (HC.out).mono ?_);rintro e w2 ⟨rfl,hb2⟩))
 go_ret
 exact ⟨rfl,hb2⟩
end Go.Proofs.YtejleplhmkmegaaGreatDoor
namespace Go.Fl
open Ieee
theorem wt:double.signWeight=2^63:=rfl
theorem bn:double.binade=2^52:=rfl
theorem inr:double.infRung=2047*2^52:=rfl
theorem lp:double.leastPlace= -1074:=rfl
theorem fb:double.fractionBits=52:=rfl
theorem log2_shift {M d:Nat} (hM:0<M):(M*2^d).log2=M.log2+d:=by
 have h1:M*2^d≠0:=Nat.ne_of_gt (Nat.mul_pos hM (Nat.two_pow_pos d))
 rw [Nat.log2_eq_iff h1]
 have h2:=(Nat.log2_eq_iff (Nat.ne_of_gt hM)).1 rfl
 constructor
 ·rw [Nat.pow_add];exact Nat.mul_le_mul_right _ h2.1
 ·rw [show M.log2+d+1=M.log2+1+d by omega,Nat.pow_add]
  exact Nat.mul_lt_mul_of_pos_right h2.2 (Nat.two_pow_pos d)
theorem cut_exact {neg:Bool} {M d:Nat} (hM:0<M):Toward.even.cut neg (M*2^d) d=M:=by
 unfold Toward.cut
 have hl:d≤(M*2^d).log2+2:=by rw [log2_shift hM];omega
 rw [Nat.min_eq_left hl]
 have h1:(1:Nat)<<<d=2^d:=by rw [Nat.shiftLeft_eq,Nat.one_mul]
 have hp:=Nat.two_pow_pos d
 dsimp only
 rw [h1,Nat.mul_div_cancel _ hp,Nat.mul_mod_left]
 simp
theorem nearest_exact (neg:Bool) (mag:Nat) (place:Int) (K M:Nat) (hM:M<2^53) (hK:K=0∨2^52≤M) (h0:0<M) (hI:K*2^52+M<2047*2^52)
  (hv:(∃d:Nat,place=(K:Int)-1074-d∧mag=M*2^d)∨(∃d:Nat,place=(K:Int)-1074+d∧M=mag*2^d)):
  double.nearest neg mag place=double.word neg (K*2^52+M):=by
 have hlog:M.log2≤52:=by
  have:=(Nat.log2_eq_iff (Nat.ne_of_gt h0) (k:=M.log2)).1 rfl
  by_cases h:M.log2≤52
  ·exact h
  ·have:2^53≤2^M.log2:=Nat.pow_le_pow_right (by decide) (by omega)
   omega
 have hlog2:2^52≤M→M.log2=52:=fun h=>(Nat.log2_eq_iff (Nat.ne_of_gt h0)).2 ⟨h,hM⟩
 have key:∀last:Int,last=(K:Int)-1074→(last- -1074).toNat=K:=fun last h=>by omega
 unfold Format.nearest
 rw [lp,fb,bn,inr]
 rcases hv with ⟨d,rfl,rfl⟩|⟨d,rfl,rfl⟩
 ·rw [if_neg (Nat.ne_of_gt (Nat.mul_pos h0 (Nat.two_pow_pos d))),log2_shift h0]
  have hl:max ((K:Int)-1074-d+((M.log2+d:Nat):Int)-((52:Nat):Int)) (-1074)=(K:Int)-1074:=by
   rcases hK with h|h
   ·omega
   ·have:=hlog2 h;omega
  dsimp only
  rw [hl,key _ rfl]
  have e1:((K:Int)-1074-d-((K:Int)-1074)).toNat=0:=by omega
  have e2:((K:Int)-1074-((K:Int)-1074-d)).toNat=d:=by omega
  rw [e1,e2,Nat.shiftLeft_zero,cut_exact h0,Nat.min_eq_left (by omega)]
 ·have hm:0<mag:=by
   rcases Nat.eq_zero_or_pos mag with h|h
   ·subst h;simp at h0
   ·exact h
  have hlm:(mag*2^d).log2=mag.log2+d:=log2_shift hm
  rw [if_neg (Nat.ne_of_gt hm)]
  have hl:max ((K:Int)-1074+d+(mag.log2:Int)-((52:Nat):Int)) (-1074)=(K:Int)-1074:=by
   rcases hK with h|h
   ·omega
   ·have:=hlog2 h;omega
  dsimp only
  rw [hl,key _ rfl]
  have e1:((K:Int)-1074+d-((K:Int)-1074)).toNat=d:=by omega
  have e2:((K:Int)-1074-((K:Int)-1074+d)).toNat=0:=by omega
  rw [e1,e2,Nat.shiftLeft_eq]
  have:=cut_exact (neg:=neg) (M:=mag*2^d) (d:=0) h0
  rw [Nat.pow_zero,Nat.mul_one] at this
  rw [this,Nat.min_eq_left (by omega)]
def fK (r:Nat):Nat:=if r<2^52 then 0 else r/2^52-1
def fM (r:Nat):Nat:=if r<2^52 then r else 2^52+r % 2^52
theorem rung_parts (r:Nat):r=fK r*2^52+fM r:=by
 unfold fK fM
 split
 ·omega
 ·have h1:=Nat.div_add_mod r (2^52)
  have h2:1≤r/2^52:=by omega
  omega
theorem fM_lt (r:Nat):fM r<2^53:=by unfold fM;split<;>omega
theorem fK_or (r:Nat):fK r=0∨2^52≤fM r:=by unfold fK fM;split<;>omega
theorem parts_of {K M:Nat} (hM:M<2^53) (hK:K=0∨2^52≤M):fK (K*2^52+M)=K∧fM (K*2^52+M)=M:=by
 unfold fK fM
 by_cases h:M<2^52
 ·have hk:K=0:=by omega
  subst hk
  simp [h]
 ·have h3:(K*2^52+M)/2^52=K+1:=by omega
  have h4:(K*2^52+M) % 2^52=M-2^52:=by omega
  rw [if_neg (by omega),if_neg (by omega),h3,h4]
  omega
def sgn (b:Nat):Bool:=b/2^63 % 2==1
theorem read_fin {b:Nat} (h:b % 2^63<2047*2^52):double.read b= .number (sgn b) (fM (b % 2^63)) ((fK (b % 2^63):Int)-1074):=by
 unfold Format.read
 rw [wt,bn,inr,lp]
 unfold fM fK sgn
 dsimp only
 by_cases h1:b % 2^63<2^52
 ·rw [if_pos h1,if_pos h1,if_pos h1];rfl
 ·rw [if_neg h1,if_pos h,if_neg h1,if_neg h1]
  congr 1
theorem read_inf {b:Nat} (h:b % 2^63=2047*2^52):double.read b= .infinity (sgn b):=by
 unfold Format.read
 rw [wt,bn,inr,lp]
 unfold sgn
 dsimp only
 rw [if_neg (by omega),if_neg (by omega),if_pos h]
theorem read_nan {b:Nat} (h:2047*2^52<b % 2^63):double.read b= .nan (sgn b) (b % 2^63-2047*2^52):=by
 unfold Format.read
 rw [wt,bn,inr,lp]
 unfold sgn
 dsimp only
 rw [if_neg (by omega),if_neg (by omega),if_neg (by omega)]
theorem word_mod (neg:Bool) {r:Nat} (h:r<2^63):double.word neg r % 2^63=r∧sgn (double.word neg r)=neg∧double.word neg r<2^64:=by
 unfold Format.word sgn
 rw [wt]
 cases neg<;>simp<;>omega
end Go.Fl
namespace Go.Fl
open Ieee
def val (r:Nat):Nat:=fM r*2^fK r
theorem val_lt {r s:Nat} (h:r<s):val r<val s:=by
 have e1:=rung_parts r;have e2:=rung_parts s
 have m1:=fM_lt r;have m2:=fM_lt s
 have k2:=fK_or s;have k1:=fK_or r
 unfold val
 generalize fK r=K at*;generalize fK s=L at*;generalize fM r=M at*;generalize fM s=N at*
 by_cases hKL:K=L
 ·subst hKL
  have:M<N:=by omega
  exact Nat.mul_lt_mul_of_pos_right this (Nat.two_pow_pos _)
 ·have hlt:K<L:=by
   rcases Nat.lt_or_gt_of_ne hKL with h1|h1
   ·exact h1
   ·exfalso
    have:(L+1)*2^52≤K*2^52:=Nat.mul_le_mul_right _ h1
    omega
  have hN:2^52≤N:=by omega
  have h1:M*2^K<2^53*2^K:=Nat.mul_lt_mul_of_pos_right m1 (Nat.two_pow_pos _)
  have h2:2^52*2^L≤N*2^L:=Nat.mul_le_mul_right _ hN
  have h3:2^53*2^K≤2^52*2^L:=by
   rw [←Nat.pow_add,←Nat.pow_add]
   exact Nat.pow_le_pow_right (by decide) (by omega)
  omega
theorem val_zero:val 0=0:=rfl
theorem val_inj {r s:Nat} (h:val r=val s):r=s:=by
 rcases Nat.lt_trichotomy r s with h1|h1|h1
 ·have:=val_lt h1;omega
 ·exact h1
 ·have:=val_lt h1;omega
theorem val_pos {r:Nat} (h:0<r):0<val r:=by have:=val_lt h;rw [val_zero] at this;exact this
def skey (b:Nat):Int:=if sgn b then -((b % 2^63:Nat):Int) else ((b % 2^63:Nat):Int)
def isNan (b:Nat):Bool:=decide (2047*2^52<b % 2^63)
def sval (neg:Bool) (v:Nat):Int:=if neg then -(v:Int) else (v:Int)
theorem signed_eq (neg:Bool) (m u:Nat):signed neg m u=sval neg (m*2^u):=by
 unfold signed sval;rw [Nat.shiftLeft_eq]
theorem cmp_int (a b c d:Int) (h:(a<b↔c<d)∧(a=b↔c=d)):compare a b=compare c d:=by
 rcases Int.lt_trichotomy a b with h1|h1|h1
 ·rw [Int.compare_eq_lt.2 h1,Int.compare_eq_lt.2 (h.1.1 h1)]
 ·rw [Int.compare_eq_eq.2 h1,Int.compare_eq_eq.2 (h.2.1 h1)]
 ·have h2:d<c:=by
   rcases Int.lt_trichotomy c d with h3|h3|h3
   ·have:=h.1.2 h3;omega
   ·have:=h.2.2 h3;omega
   ·exact h3
  rw [Int.compare_eq_gt.2 h1,Int.compare_eq_gt.2 h2]
theorem cmp_mono (r q:Nat):(val r<val q↔r<q)∧(val r=val q↔r=q):=by
 refine ⟨⟨fun h=> ?_,val_lt⟩,⟨val_inj,fun h=>by rw [h]⟩⟩
 rcases Nat.lt_trichotomy r q with h1|h1|h1
 ·exact h1
 ·subst h1;omega
 ·have:=val_lt h1;omega
theorem order_nan {x y:Nat} (h:isNan x=true∨isNan y=true):double.order x y=none:=by
 unfold Format.order
 rcases h with h|h
 ·rw [read_nan (by simpa [isNan] using h)];rfl
 ·rw [read_nan (b:=y) (by simpa [isNan] using h)]
  cases double.read x<;>rfl
theorem skey_eq (b:Nat):skey b=sval (sgn b) (b % 2^63):=rfl
theorem cmp_sval (s t:Bool) {a b r q:Nat} (h1:a<b↔r<q) (h2:b<a↔q<r) (h3:a=b↔r=q) (h4:a=0↔r=0) (h5:b=0↔q=0):compare (sval s a) (sval t b)=compare (sval s r) (sval t q):=by
 refine cmp_int _ _ _ _ ?_
 unfold sval
 cases s<;>cases t<;>simp only [if_true,if_false,Bool.false_eq_true]<;>omega
set_option linter.unusedVariables false in
theorem cmp_scale (M K N L:Nat):(M*2^(K-min K L)<N*2^(L-min K L)↔M*2^K<N*2^L):=by
 have e1:M*2^K=M*2^(K-min K L)*2^min K L:=by rw [Nat.mul_assoc,←Nat.pow_add,show K-min K L+min K L=K by omega]
 have e2:N*2^L=N*2^(L-min K L)*2^min K L:=by rw [Nat.mul_assoc,←Nat.pow_add,show L-min K L+min K L=L by omega]
 rw [e1,e2]
 exact (Nat.mul_lt_mul_right (Nat.two_pow_pos _)).symm
theorem order_num {x y:Nat} (hx:isNan x=false) (hy:isNan y=false):double.order x y=some (compare (skey x) (skey y)):=by
 have hx':x % 2^63≤2047*2^52:=by simpa [isNan] using hx
 have hy':y % 2^63≤2047*2^52:=by simpa [isNan] using hy
 unfold Format.order
 rw [skey_eq,skey_eq]
 by_cases h1:x % 2^63<2047*2^52
 ·rw [read_fin h1]
  by_cases h2:y % 2^63<2047*2^52
  ·rw [read_fin h2]
   unfold Datum.order
   dsimp only
   generalize hr:x % 2^63=r at*
   generalize hq:y % 2^63=q at*
   congr 1
   rw [signed_eq,signed_eq]
   have e1:((fK r:Int)-1074-min ((fK r:Int)-1074) ((fK q:Int)-1074)).toNat=fK r-min (fK r) (fK q):=by omega
   have e2:((fK q:Int)-1074-min ((fK r:Int)-1074) ((fK q:Int)-1074)).toNat=fK q-min (fK r) (fK q):=by omega
   rw [e1,e2]
   have c1:=cmp_scale (fM r) (fK r) (fM q) (fK q)
   have c2:=cmp_scale (fM q) (fK q) (fM r) (fK r)
   rw [Nat.min_comm (fK q)] at c2
   have v1:=cmp_mono r q
   have v2:=cmp_mono q r
   have z1:=cmp_mono r 0
   have z2:=cmp_mono q 0
   rw [val_zero] at z1 z2
   have p1:0<2^(fK r-min (fK r) (fK q)):=Nat.two_pow_pos _
   have p2:0<2^(fK q-min (fK r) (fK q)):=Nat.two_pow_pos _
   have q1:0<2^fK r:=Nat.two_pow_pos _
   have q2:0<2^fK q:=Nat.two_pow_pos _
   unfold val at v1 v2 z1 z2
   have w1:fM r*2^(fK r-min (fK r) (fK q))=0↔fM r*2^fK r=0:=by simp [Nat.mul_eq_zero]
   have w2:fM q*2^(fK q-min (fK r) (fK q))=0↔fM q*2^fK q=0:=by simp [Nat.mul_eq_zero]
   refine cmp_sval _ _ (c1.trans v1.1) (c2.trans v2.1) ?_ (w1.trans z1.2) (w2.trans z2.2)
   have a1:=c1.trans v1.1;have a2:=c2.trans v2.1
   omega
  ·have h3:y % 2^63=2047*2^52:=by omega
   rw [read_inf h3]
   unfold Datum.order
   dsimp only
   congr 1
   rw [h3]
   generalize x % 2^63=r at*
   unfold sval
   cases sgn y<;>cases sgn x<;>simp<;>first|(symm;rw [Int.compare_eq_lt];omega)|(symm;rw [Int.compare_eq_gt];omega)
 ·have h3:x % 2^63=2047*2^52:=by omega
  rw [read_inf h3]
  by_cases h2:y % 2^63<2047*2^52
  ·rw [read_fin h2]
   unfold Datum.order
   dsimp only
   congr 1
   rw [h3]
   generalize y % 2^63=r at*
   unfold sval
   cases sgn y<;>cases sgn x<;>simp<;>first|(symm;rw [Int.compare_eq_lt];omega)|(symm;rw [Int.compare_eq_gt];omega)
  ·have h4:y % 2^63=2047*2^52:=by omega
   rw [read_inf h4]
   unfold Datum.order
   dsimp only
   rw [h3,h4]
   cases sgn y<;>cases sgn x<;>rfl
end Go.Fl
namespace Go.Fl
open Ieee
structure Rep (r K M:Nat):Prop where
 eq:r=K*2^52+M
 m:M<2^53
 k:K=0∨2^52≤M
 pos:0<M
 fin:K*2^52+M<2047*2^52
theorem Rep.of {r:Nat} (h0:0<r) (h:r<2047*2^52):Rep r (fK r) (fM r):=by
 have e:=rung_parts r
 have hp:0<fM r:=by
  have:=val_pos h0
  unfold val at this
  exact Nat.pos_of_mul_pos_right this
 exact ⟨e,fM_lt r,fK_or r,hp,by rw [←e];exact h⟩
theorem Rep.lt {r K M:Nat} (h:Rep r K M):r<2047*2^52:=by rw [h.eq];exact h.fin
theorem Rep.parts {r K M:Nat} (h:Rep r K M):fK r=K∧fM r=M:=by rw [h.eq];exact parts_of h.m h.k
theorem Rep.val {r K M:Nat} (h:Rep r K M):val r=M*2^K:=by unfold Fl.val;rw [h.parts.1,h.parts.2]
theorem Rep.pos' {r K M:Nat} (h:Rep r K M):0<r:=by have:=h.eq;have:=h.pos;omega
theorem Rep.word (neg:Bool) {r K M:Nat} (h:Rep r K M):double.word neg r % 2^63=r∧sgn (double.word neg r)=neg∧double.word neg r<2^64:=word_mod neg (by have:=h.lt;omega)
theorem Rep.read (neg:Bool) {r K M:Nat} (h:Rep r K M):double.read (double.word neg r)= .number neg M ((K:Int)-1074):=by
 obtain ⟨h1,h2,_⟩:=h.word neg
 rw [read_fin (by rw [h1];exact h.lt),h1,h2,h.parts.1,h.parts.2]
def Same2 (mag:Nat) (p:Int) (K M:Nat):Prop:=(∃d:Nat,p=(K:Int)-d∧mag=M*2^d)∨(∃d:Nat,p=(K:Int)+d∧M=mag*2^d)
theorem near_rep (neg:Bool) {mag:Nat} {p:Int} {r K M:Nat} (h:Rep r K M) (hv:Same2 mag p K M):double.nearest neg mag (p-1074)=double.word neg r:=by
 rw [h.eq]
 refine nearest_exact neg mag (p-1074) K M h.m h.k h.pos h.fin ?_
 rcases hv with ⟨d,rfl,rfl⟩|⟨d,rfl,rfl⟩
 ·exact .inl ⟨d,by omega,rfl⟩
 ·exact .inr ⟨d,by omega,rfl⟩
theorem Same2.uniq {mag:Nat} {p:Int} {r K M q L N:Nat} (h:Rep r K M) (k:Rep q L N) (hv:Same2 mag p K M) (kv:Same2 mag p L N):r=q:=by
 have e1:=near_rep false h hv
 have e2:=near_rep false k kv
 rw [e1] at e2
 have a:=(h.word false).1
 have b:=(k.word false).1
 rw [e2,b] at a
 exact a.symm
theorem Same2.self {r K M:Nat} (h:Rep r K M):Same2 M K K M:= .inl ⟨0,by omega,by simp⟩
theorem near_num (neg:Bool) (mag:Nat) (place:Int):∃r,double.nearest neg mag place=double.word neg r∧r≤2047*2^52:=by
 unfold Format.nearest
 split
 ·exact ⟨0,rfl,by decide⟩
 ·exact ⟨_,rfl,by rw [inr];exact Nat.min_le_right _ _⟩
theorem word_nan (neg:Bool) {r:Nat} (h:r≤2047*2^52):isNan (double.word neg r)=false∧double.word neg r<2^64:=by
 obtain ⟨h1,_,h3⟩:=word_mod neg (r:=r) (by omega)
 refine ⟨?_,h3⟩
 unfold isNan
 rw [h1];simp;omega
theorem mul_num {c y:Nat} {neg:Bool} {r K M:Nat} (h:Rep r K M) (hc:c=double.word neg r) (hy:isNan y=false):∃z,double.mul c y=some z∧isNan z=false∧z<2^64:=by
 subst hc
 unfold Format.mul
 rw [h.read]
 have hy':y % 2^63≤2047*2^52:=by simpa [isNan] using hy
 by_cases hf:y % 2^63<2047*2^52
 ·rw [read_fin hf]
  obtain ⟨z,e,hz⟩:=near_num (neg^^sgn y) (M*fM (y % 2^63)) ((K:Int)-1074+((fK (y % 2^63):Int)-1074))
  exact ⟨_,by unfold Datum.product;rfl,by show isNan (double.nearest _ _ _)=false∧double.nearest _ _ _<2^64;rw [e];exact word_nan _ hz⟩
 ·rw [read_inf (by omega)]
  unfold Datum.product
  have:¬M=0:=Nat.ne_of_gt h.pos
  simp only [this,if_false,Option.map_some]
  exact ⟨_,rfl,by show isNan (double.word _ _)=false∧double.word _ _<2^64;exact word_nan _ (by rw [inr];omega)⟩
theorem mul_rep {n1 n2:Bool} {r K M q L N t J I:Nat} (h:Rep r K M) (k:Rep q L N) (j:Rep t J I) (hv:Same2 (M*N) ((K:Int)+L-1074) J I):double.mul (double.word n1 r) (double.word n2 q)=some (double.word (n1^^n2) t):=by
 unfold Format.mul
 rw [h.read,k.read]
 unfold Datum.product
 simp only [Option.map_some]
 congr 1
 have:=near_rep (n1^^n2) j hv
 show double.nearest _ _ _=_
 rw [←this]
 congr 1
 omega
theorem rep_one:Rep 0x3FF0000000000000 1022 (2^52):=⟨by decide,by decide,by decide,by decide,by decide⟩
theorem rep_m53:Rep 0x3CA0000000000000 969 (2^52):=⟨by decide,by decide,by decide,by decide,by decide⟩
theorem rep_p52:Rep 0x4330000000000000 1074 (2^52):=⟨by decide,by decide,by decide,by decide,by decide⟩
theorem word_false (r:Nat):double.word false r=r:=rfl
theorem mul_one {neg:Bool} {r K M:Nat} (h:Rep r K M):double.mul 0x3FF0000000000000 (double.word neg r)=some (double.word neg r):=by
 have:=mul_rep (n1:=false) (n2:=neg) rep_one h h (.inl ⟨52,by omega,Nat.mul_comm _ _⟩)
 rw [word_false] at this
 simpa using this
end Go.Fl
namespace Go.Fl
open Ieee
abbrev w3 (s E l:Nat):Nat:=2^52*(2^11*s+E)+l
theorem w3_bit {s E l:Nat} (hE:E<2^11) (hl:l<2^52) (j:Nat):(w3 s E l).testBit j=if j<52 then l.testBit j else if j-52<11 then E.testBit (j-52) else s.testBit (j-52-11):=by
 rw [Nat.testBit_two_pow_mul_add _ hl,Nat.testBit_two_pow_mul_add _ hE]
theorem w3_lt {s E l:Nat} (hs:s<2) (hE:E<2^11) (hl:l<2^52):w3 s E l<2^64:=by unfold w3;omega
theorem bit_hi {n k j:Nat} (h:n<2^k) (hj:k≤j):n.testBit j=false:=Nat.testBit_lt_two_pow (Nat.lt_of_lt_of_le h (Nat.pow_le_pow_right (by decide) hj))
theorem expMask_bit (j:Nat):(9218868437227405312:Nat).testBit j=(decide (52≤j)&&decide (j<63)):=by
 have e:(9218868437227405312:Nat)=w3 0 2047 0:=by decide
 rw [e,w3_bit (by decide) (by decide)]
 have h2047:∀i,i<11→(2047:Nat).testBit i=true:=by decide
 by_cases h1:j<52
 ·rw [if_pos h1];simp;omega
 ·rw [if_neg h1]
  by_cases h2:j-52<11
  ·rw [if_pos h2,h2047 _ h2];simp;omega
  ·rw [if_neg h2];simp;omega
theorem andnot_exp {s E l:Nat} (hs:s<2) (hE:E<2^11) (hl:l<2^52):(BitVec.ofNat 64 (w3 s E l)&&&~~~ BitVec.ofNat 64 9218868437227405312).toNat=w3 s 0 l:=by
 have hlt:=w3_lt hs hE hl
 have hlt2:=w3_lt hs (show 0<2^11 by decide) hl
 apply Nat.eq_of_testBit_eq
 intro j
 rw [BitVec.toNat_and,Nat.testBit_and,BitVec.toNat_not,BitVec.toNat_ofNat,BitVec.toNat_ofNat,Nat.mod_eq_of_lt hlt,Nat.mod_eq_of_lt (by decide),show (2^64-1-9218868437227405312:Nat)=2^64-(9218868437227405312+1) from rfl,Nat.testBit_two_pow_sub_succ (by decide),expMask_bit,w3_bit hE hl,w3_bit (by decide) hl]
 by_cases h1:j<52
 ·rw [if_pos h1,if_pos h1]
  have:decide (j<64)=true:=by simp;omega
  simp [this]
  omega
 ·rw [if_neg h1,if_neg h1]
  by_cases h2:j-52<11
  ·rw [if_pos h2,if_pos h2]
   have h3:decide (52≤j)=true:=by simp;omega
   have h4:decide (j<63)=true:=by simp;omega
   simp [h3,h4]
  ·rw [if_neg h2,if_neg h2]
   have h4:decide (j<63)=false:=by simp;omega
   by_cases h5:j<64
   ·simp [h4,h5]
   ·have:s.testBit (j-52-11)=false:=bit_hi (k:=1) (by omega) (by omega)
    simp [this]
theorem or_exp {s E l:Nat} (hE:E<2^11) (hl:l<2^52):w3 s 0 l|||E*2^52=w3 s E l:=by
 apply Nat.eq_of_testBit_eq
 intro j
 have e:E*2^52=w3 0 E 0:=by unfold w3;omega
 rw [Nat.testBit_or,e,w3_bit hE (by decide),w3_bit hE hl,w3_bit (by decide) hl]
 by_cases h1:j<52
 ·simp [h1]
 ·by_cases h2:j-52<11
  ·simp [h1,h2]
  ·simp [h1,h2]
theorem andnot_sign {x:Nat} (hx:x<2^64):(BitVec.ofNat 64 x&&&~~~ BitVec.ofNat 64 9223372036854775808).toNat=x % 2^63:=by
 apply Nat.eq_of_testBit_eq
 intro j
 have e:(9223372036854775808:Nat)=2^63:=by decide
 rw [BitVec.toNat_and,Nat.testBit_and,BitVec.toNat_not,BitVec.toNat_ofNat,BitVec.toNat_ofNat,Nat.mod_eq_of_lt hx,Nat.mod_eq_of_lt (by decide),show (2^64-1-9223372036854775808:Nat)=2^64-(9223372036854775808+1) from rfl,Nat.testBit_two_pow_sub_succ (by decide),e,Nat.testBit_two_pow,Nat.testBit_mod_two_pow]
 by_cases h1:j<63
 ·have h2:decide (j<64)=true:=by simp;omega
  have h3:decide (63=j)=false:=by simp;omega
  simp [h1,h2,h3]
 ·have:decide (j<63)=false:=by simp;omega
  rw [this]
  by_cases h4:j=63
  ·subst h4;simp
  ·rw [bit_hi hx (by omega)];simp
theorem and_sign {x:Nat}:x&&&9223372036854775808=if sgn x then 2^63 else 0:=by
 apply Nat.eq_of_testBit_eq
 intro j
 have e:(9223372036854775808:Nat)=2^63:=by decide
 have hs:x.testBit 63=sgn x:=by unfold sgn;rw [Nat.testBit_eq_decide_div_mod_eq];rfl
 rw [Nat.testBit_and,e,Nat.testBit_two_pow]
 by_cases h:63=j
 ·subst h
  rw [hs]
  cases sgn x
  ·simp
  ·rw [if_pos rfl,Nat.testBit_two_pow];simp
 ·cases sgn x
  ·simp [h]
  ·rw [if_pos rfl,Nat.testBit_two_pow];simp [h]
theorem or_sign {x:Nat} (hx:x<2^63) (neg:Bool):x|||(if neg then 2^63 else 0)=double.word neg x:=by
 unfold Format.word
 rw [wt]
 cases neg with
 |false=>simp
 |true=>
  simp only [if_true]
  have:=Nat.two_pow_add_eq_or_of_lt (i:=63) hx 1
  rw [Nat.mul_one] at this
  rw [this,Nat.or_comm]
theorem Rep.w3 {neg:Bool} {r K M:Nat} (h:Rep r K M) (hM:2^52≤M):double.word neg r=Fl.w3 neg.toNat (K+1) (M-2^52):=by
 have e:=h.eq
 unfold Format.word Fl.w3
 rw [wt]
 cases neg<;>simp<;>omega
end Go.Fl
namespace Go.Proofs.YtejleplhmkmegaaGreatDoor
set_option linter.unusedVariables false
set_option linter.unusedSimpArgs false
set_option maxRecDepth 100000
open Go.ChangeShapes Go.WideShapes Go.ChangeAt Go.RowKit Go.Fl
theorem f64_format:FloatKind.f64.format=Ieee.double:=rfl
def ltB (a b:Nat):Bool:= !isNan a&& !isNan b&&decide (skey a<skey b)
def eqB (a b:Nat):Bool:= !isNan a&& !isNan b&&decide (skey a=skey b)
theorem ord_lt (a b:Nat):(FloatKind.f64.format.order a b==some .lt)=ltB a b:=by
 rw [f64_format]
 unfold ltB
 cases h1:isNan a with
 |true=>rw [order_nan (.inl h1)];simp
 |false=>
  cases h2:isNan b with
  |true=>rw [order_nan (.inr h2)];simp
  |false=>
   rw [order_num h1 h2]
   rcases Int.lt_trichotomy (skey a) (skey b) with h|h|h
   ·rw [Int.compare_eq_lt.2 h];first|(simp [h];done)|(simp;omega)
   ·rw [Int.compare_eq_eq.2 h];first|(simp [h];done)|(simp;omega)
   ·rw [Int.compare_eq_gt.2 h];first|(simp [h];done)|(simp;omega)
theorem ord_eq (a b:Nat):(FloatKind.f64.format.order a b==some .eq)=eqB a b:=by
 rw [f64_format]
 unfold eqB
 cases h1:isNan a with
 |true=>rw [order_nan (.inl h1)];simp
 |false=>
  cases h2:isNan b with
  |true=>rw [order_nan (.inr h2)];simp
  |false=>
   rw [order_num h1 h2]
   rcases Int.lt_trichotomy (skey a) (skey b) with h|h|h
   ·rw [Int.compare_eq_lt.2 h];first|(simp [h];done)|(simp;omega)
   ·rw [Int.compare_eq_eq.2 h];first|(simp [h];done)|(simp;omega)
   ·rw [Int.compare_eq_gt.2 h];first|(simp [h];done)|(simp;omega)
theorem ord_gt (a b:Nat):(FloatKind.f64.format.order a b==some .gt)=ltB b a:=by
 rw [f64_format]
 unfold ltB
 cases h1:isNan a with
 |true=>rw [order_nan (.inl h1)];simp
 |false=>
  cases h2:isNan b with
  |true=>rw [order_nan (.inr h2)];simp
  |false=>
   rw [order_num h1 h2]
   rcases Int.lt_trichotomy (skey a) (skey b) with h|h|h
   ·rw [Int.compare_eq_lt.2 h];first|(simp [h];done)|(simp;omega)
   ·rw [Int.compare_eq_eq.2 h];first|(simp [h];done)|(simp;omega)
   ·rw [Int.compare_eq_gt.2 h];first|(simp [h];done)|(simp;omega)
theorem ord_ne (a b:Nat):(FloatKind.f64.format.order a b !=some .eq)= !eqB a b:=by rw [←ord_eq];rfl
theorem eqB_self (a:Nat):eqB a a= !isNan a:=by unfold eqB;cases isNan a<;>simp
theorem bits_andNot (x c:Nat) (hx:x<2^64) (hc:c<2^64):bits .andNot .u64 (x:Int) (c:Int)=(((BitVec.ofNat 64 x&&&~~~ BitVec.ofNat 64 c).toNat:Nat):Int):=by
 show IntKind.u64.wrap ((BitVec.ofInt 64 (x:Int)&&&~~~ BitVec.ofInt 64 (c:Int)).toNat:Int)=_
 rw [BitVec.ofInt_natCast,BitVec.ofInt_natCast,IntKind.wrap_u64]
 have:=(BitVec.ofNat 64 x&&&~~~ BitVec.ofNat 64 c).isLt
 omega
theorem fbits_run (b:Nat) (w:World):(callFunc 160 #[.float .f64 b]).run Tryz.prog w= .ok (.value (.int .u64 (b:Int))) w:=by
 rw [@run_callFunc_extern Tryz.prog 160 _ Extern.MathFloatBits.float64bits Tryz.func160 (by kernel_rfl) (by kernel_rfl) (by kernel_rfl) (by kernel_rfl)]
 rfl
theorem frombits_lit (b:Int) (w:World):(callFunc 143 #[.int .u64 b]).run Tryz.prog w= .ok (.value (.float .f64 b.toNat)) w:=by
 rw [@run_callFunc_extern Tryz.prog 143 _ Extern.MathFloatBits.float64frombits Tryz.func143 (by kernel_rfl) (by kernel_rfl) (by kernel_rfl) (by kernel_rfl)]
 rfl
attribute [local go_sem] fbits_run frombits_lit Int.toNat_natCast
theorem abs_any (b:Nat) (hb:b<2^64) (w:World):Calls Tryz.prog 90 #[.float .f64 b] w fun e w'=>e= .returned (.float .f64 (b % 2^63))∧w=w':=by
 have H:=hid (show bits .andNot .u64 (b:Int) 9223372036854775808=((b % 2^63:Nat):Int) from (bits_andNot b 9223372036854775808 hb (by decide)).trans (by rw [andnot_sign hb]))
 obtain ⟨r,hr⟩:∃r,b % 2^63=r:=⟨_,rfl⟩
 rw [hr] at H ⊢
 have q:=H.out
 clear hr
 go_enter Tryz.func90,Tryz.ntmps90
 go_wp2
 go_ret
 exact ⟨rfl,rfl⟩
theorem skey_pos {r:Nat} (h:r<2^63):skey r=(r:Int):=by
 unfold skey sgn
 rw [Nat.mod_eq_of_lt h,Nat.div_eq_of_lt h]
 simp
theorem nan_pos {r:Nat} (h:r<2^63):isNan r=decide (2047*2^52<r):=by unfold isNan;rw [Nat.mod_eq_of_lt h]
def isInfB (b:Nat):Bool:=decide (b % 2^63=2047*2^52)
theorem max_lt {r:Nat} (h:r<2^63):ltB 9218868437227405311 r=decide (r=2047*2^52):=by
 unfold ltB
 rw [nan_pos h,skey_pos h,skey_pos (show 9218868437227405311<2^63 by decide),nan_pos (show 9218868437227405311<2^63 by decide)]
 rw [Bool.eq_iff_iff]
 simp
 omega
theorem isNaN_any (b:Nat) (w:World):Calls Tryz.prog 208 #[.float .f64 b] w fun e w'=>e= .returned (.bool (isNan b))∧w=w':=by
 have H:=ord_ne b b
 rw [eqB_self,Bool.not_not] at H
 go_enter Tryz.func208,Tryz.ntmps208
 go_wp2
 go_ret
 exact ⟨rfl,rfl⟩
theorem isInf_any (b:Nat) (hb:b<2^64) (w:World):Calls Tryz.prog 207 #[.float .f64 b,.int .i64 0] w fun e w'=>e= .returned (.bool (isInfB b))∧w=w':=by
 have H:=ord_gt (b % 2^63) 9218868437227405311
 rw [max_lt (by omega)] at H
 have HA:=hid (fun W=>abs_any b hb W)
 unfold isInfB
 go_enter Tryz.func207,Tryz.ntmps207
 go_wp2_with (go_at_call 90;((with_reducible refine (HA.out _).mono ?_);rintro e w1 ⟨rfl,rfl⟩))
 go_ret
 exact ⟨rfl,rfl⟩
theorem signbit_any (b:Nat) (hb:b<2^64) (w:World):Calls Tryz.prog 166 #[.float .f64 b] w fun e w'=>e= .returned (.bool (sgn b))∧w=w':=by
 have H:Hid (decide (wrap64 (b:Int)<0)=sgn b):=by
  unfold Hid
  rw [Bool.eq_iff_iff]
  unfold sgn wrap64
  simp
  omega
 go_enter Tryz.func166,Tryz.ntmps166
 go_wp2
 all_goals
  go_ret
  exact ⟨by rw [←H.out];rfl,rfl⟩
theorem inf_any (n:Int) (w:World):Calls Tryz.prog 141 #[.int .i64 n] w fun e w'=>e= .returned (.float .f64 (Ieee.double.word (decide (n<0)) (2047*2^52)))∧w=w':=by
 by_cases h:n<0
 ·have h2:¬0≤n:=by omega
  rw [show decide (n<0)=true by simp [h]]
  go_enter Tryz.func141,Tryz.ntmps141
  go_wp2
  go_ret
  exact ⟨rfl,rfl⟩
 ·have h2:0≤n:=by omega
  rw [show decide (n<0)=false by simp [h2]]
  go_enter Tryz.func141,Tryz.ntmps141
  go_wp2
  go_ret
  exact ⟨rfl,rfl⟩
theorem nan_any (w:World):Calls Tryz.prog 140 #[] w fun e w'=>e= .returned (.float .f64 9221120237041090561)∧w=w':=by
 go_enter Tryz.func140,Tryz.ntmps140
 go_wp2
 go_ret
 exact ⟨rfl,rfl⟩
theorem bits_or (x y:Nat) (hx:x<2^64) (hy:y<2^64):bits .or .u64 (x:Int) (y:Int)=((x|||y:Nat):Int):=bits_or_u64_nat x y hx hy
theorem bits_and (x y:Nat) (hx:x<2^64) (hy:y<2^64):bits .and .u64 (x:Int) (y:Int)=((x&&&y:Nat):Int):=bits_and_u64_nat x y hx hy
theorem copysign_any (a b:Nat) (ha:a<2^64) (hb:b<2^64) (w:World):Calls Tryz.prog 157 #[.float .f64 a,.float .f64 b] w fun e w'=>e= .returned (.float .f64 (Ieee.double.word (sgn b) (a % 2^63)))∧w=w':=by
 have q1:bits .andNot .u64 (a:Int) 9223372036854775808=((a % 2^63:Nat):Int):=(bits_andNot a 9223372036854775808 ha (by decide)).trans (by rw [andnot_sign ha])
 have q2:bits .and .u64 (b:Int) 9223372036854775808=(((if sgn b then 2^63 else 0):Nat):Int):=(bits_and b 9223372036854775808 hb (by decide)).trans (by rw [and_sign])
 have q3:bits .or .u64 ((a % 2^63:Nat):Int) (((if sgn b then 2^63 else 0):Nat):Int)=((Ieee.double.word (sgn b) (a % 2^63):Nat):Int):=(bits_or _ _ (by omega) (by split<;>decide)).trans (by rw [or_sign (by omega)])
 generalize (if sgn b then 2^63 else 0:Nat)=s at*
 generalize Ieee.double.word (sgn b) (a % 2^63)=z at*
 generalize a % 2^63=r at*
 go_enter Tryz.func157,Tryz.ntmps157
 go_wp2
 go_ret
 exact ⟨rfl,rfl⟩
attribute [local go_sem] fbits_run frombits_lit Int.toNat_natCast ord_lt ord_eq ord_gt ord_ne
theorem word_num {neg:Bool} {r K M:Nat} (h:Rep r K M):isNan (Ieee.double.word neg r)=false∧isInfB (Ieee.double.word neg r)=false∧skey (Ieee.double.word neg r)=sval neg r∧Ieee.double.word neg r<2^64∧Ieee.double.word neg r % 2^63=r:=by
 obtain ⟨h1,h2,h3⟩:=h.word neg
 have h4:=h.lt
 refine ⟨?_,?_,?_,h3,h1⟩
 ·unfold isNan;rw [h1];simp;omega
 ·unfold isInfB;rw [h1];simp;omega
 ·rw [skey_eq,h1,h2]
theorem eq_zero {neg:Bool} {r K M:Nat} (h:Rep r K M):eqB (Ieee.double.word neg r) 0=false:=by
 obtain ⟨h1,_,h3,_⟩:=word_num (neg:=neg) h
 unfold eqB
 rw [h3,skey_pos (by decide)]
 have:=h.pos'
 unfold sval
 cases neg<;>simp<;>intros<;>omega
theorem lt_small {r:Nat} (h:r≤2047*2^52):ltB r 4503599627370496=decide (r<2^52):=by
 unfold ltB
 rw [nan_pos (show r<2^63 by omega),nan_pos (by decide),skey_pos (by omega),skey_pos (by decide),Bool.eq_iff_iff]
 simp
 omega
theorem normalize_norm {neg:Bool} {r K M:Nat} (h:Rep r K M) (hM:2^52≤M) (w:World):Calls Tryz.prog 209 #[.float .f64 (Ieee.double.word neg r)] w fun e w'=>e= .returned (.tuple #[.float .f64 (Ieee.double.word neg r),.int .i64 0])∧w=w':=by
 obtain ⟨h1,h2,h3,h4,h5⟩:=word_num (neg:=neg) h
 have HA:=hid (fun W=>abs_any _ h4 W)
 rw [h5] at HA
 have h6:=h.lt
 have q:=lt_small (show r≤2047*2^52 by omega)
 rw [show decide (r<2^52)=false by simp;have:=h.eq;omega] at q
 generalize Ieee.double.word neg r=x at*
 go_enter Tryz.func209,Tryz.ntmps209
 go_wp2_with (go_at_call 90;((with_reducible refine (HA.out _).mono ?_);rintro e w1 ⟨rfl,rfl⟩))
 go_ret2
 exact ⟨rfl,rfl⟩
theorem and_2047 (a:Nat) (ha:a<9223372036854775808):bits .and .i64 (a:Int) 2047=((a % 2048:Nat):Int):=by
 show IntKind.i64.wrap ((BitVec.ofInt 64 (a:Int)&&&BitVec.ofInt 64 2047).toNat:Int)=_
 rw [BitVec.ofInt_natCast,show BitVec.ofInt 64 2047=BitVec.ofNat 64 2047 from rfl,BitVec.toNat_and,BitVec.toNat_ofNat,BitVec.toNat_ofNat,Nat.mod_eq_of_lt (by omega:a<2^64),show (2047:Nat) % 2^64=2^11-1 from rfl,Nat.and_two_pow_sub_one_eq_mod]
 rw [IntKind.wrap_i64]
 omega
theorem field_of {s E l:Nat} (hs:s<2) (hE:E<2^11) (hl:l<2^52):bits .and .i64 (((w3 s E l:Nat):Int)/4503599627370496) 2047=(E:Int):=by
 have e:((w3 s E l:Nat):Int)/4503599627370496=((2^11*s+E:Nat):Int):=by unfold w3;omega
 rw [e,and_2047 _ (by omega)]
 congr 1
 omega
def LdPost (neg:Bool) (K M:Nat) (n:Int) (w:World) (e:Ending) (w':World):Prop:=
 (∃z,e= .returned (.float .f64 z)∧isNan z=false∧z<2^64∧∀{t J I:Nat},Rep t J I→Same2 M ((K:Int)+n) J I→z=Ieee.double.word neg t)∧w=w'
set_option maxHeartbeats 1000000 in
theorem ldexp_far (neg:Bool) {r K M:Nat} (h:Rep r K M) (hM:2^52≤M) (n:Int) (hn: -3000≤n∧n≤3000) (hf:n+K< -53∨2045<n+K) (w:World):
  Calls Tryz.prog 162 #[.float .f64 (Ieee.double.word neg r),.int .i64 n] w (LdPost neg K M n w):=by
 obtain ⟨h1,h2,h3,h4,h5⟩:=word_num (neg:=neg) h
 have q0:=eq_zero (neg:=neg) h
 have HI:=hid (fun W=>isInf_any _ h4 W)
 rw [h2] at HI
 have HNN:=hid (fun W=>isNaN_any (Ieee.double.word neg r) W)
 rw [h1] at HNN
 have HNO:=hid (fun W=>normalize_norm (neg:=neg) h hM W)
 have HCS:=hid (fun W=>copysign_any 0 _ (by decide) h4 W)
 have hw:=h.w3 (neg:=neg) hM
 have hK:K+1<2^11:=by have:=h.fin;omega
 have hl:M-2^52<2^52:=by have:=h.m;omega
 have hs:neg.toNat<2:=by cases neg<;>decide
 obtain ⟨E,hE⟩:∃E:Int,E=((K+1:Nat):Int):=⟨_,rfl⟩
 have qE:bits .and .i64 ((Ieee.double.word neg r:Int)/4503599627370496) 2047=E:=by rw [hw,hE];exact field_of hs hK hl
 have hx:Ieee.double.word neg r≤18446744073709551615:=by omega
 have hE2:1≤E∧E≤2047:=by omega
 have hnone:∀(t J I:Nat),Rep t J I→Same2 M ((K:Int)+n) J I→False:=fun t J I ht hv=>by
  have m1:=h.m;have m2:=ht.m;have p1:=ht.pos;have f1:=ht.fin;have k1:=ht.k
  rcases hv with ⟨d,e1,e2⟩|⟨d,e1,e2⟩
  ·rcases hf with hf|hf
   ·have hd:54≤d:=by omega
    have:2^54≤2^d:=Nat.pow_le_pow_right (by decide) hd
    have:1*2^d≤I*2^d:=Nat.mul_le_mul_right _ p1
    omega
   ·omega
  ·rcases hf with hf|hf
   ·omega
   ·have hd:1≤d:=by omega
    have:2^1≤2^d:=Nat.pow_le_pow_right (by decide) hd
    have:M*2^1≤M*2^d:=Nat.mul_le_mul_left _ this
    omega
 have HNONE:=hid hnone
 have q1:ltB (Ieee.double.word neg r) 0=neg:=by
  unfold ltB
  rw [h1,h3,skey_pos (by decide)]
  have:=h.pos'
  unfold sval isNan
  cases neg<;>simp<;>omega
 have hf1:n+(E-1023)< -1075∨1023<n+(E-1023):=by omega
 have H2:=hid (h.word neg).2.1
 have s1:=hid (word_nan neg (r:=2047*2^52) (by decide))
 have s2:=hid (word_nan neg (r:=0) (by decide))
 clear hw h hM h5 h3 hK hl hs h4 hE hf hnone
 have HNI:=hid (fun W=>inf_any (-1) W)
 have HPI:=hid (fun W=>inf_any 1 W)
 rw [H2.out] at HCS
 generalize Ieee.double.word neg r=x at*
 rcases hf1 with hf|hf
 ·go_enter Tryz.func162,Tryz.ntmps162
  go_wp2_with (first
   |(go_at_call 207;((with_reducible refine (HI.out _).mono ?_);rintro e w1 ⟨rfl,rfl⟩))
   |(go_at_call 208;((with_reducible refine (HNN.out _).mono ?_);rintro e w1 ⟨rfl,rfl⟩))
   |(go_at_call 157;((with_reducible refine (HCS.out _).mono ?_);rintro e w1 ⟨rfl,rfl⟩))
   |(go_at_call 209;((with_reducible refine (HNO.out _).mono ?_);rintro e w1 ⟨rfl,rfl⟩)))
  go_ret
  exact ⟨⟨_,rfl,s2.out.1,s2.out.2,fun a b=>(HNONE.out _ _ _ a b).elim⟩,rfl⟩
 ·have hf2:¬n+(E-1023)< -1075:=by omega
  cases neg
  all_goals
   go_enter Tryz.func162,Tryz.ntmps162
   go_wp2_with (first
    |(go_at_call 207;((with_reducible refine (HI.out _).mono ?_);rintro e w1 ⟨rfl,rfl⟩))
    |(go_at_call 208;((with_reducible refine (HNN.out _).mono ?_);rintro e w1 ⟨rfl,rfl⟩))
    |(go_at_call 141;first|((with_reducible refine (HNI.out _).mono ?_);rintro e w1 ⟨rfl,rfl⟩)|((with_reducible refine (HPI.out _).mono ?_);rintro e w1 ⟨rfl,rfl⟩))
    |(go_at_call 209;((with_reducible refine (HNO.out _).mono ?_);rintro e w1 ⟨rfl,rfl⟩)))
   go_ret
   exact ⟨⟨_,rfl,s1.out.1,s1.out.2,fun a b=>(HNONE.out _ _ _ a b).elim⟩,rfl⟩
set_option maxHeartbeats 1000000 in
theorem ldexp_norm (neg:Bool) {r K M:Nat} (h:Rep r K M) (hM:2^52≤M) (n:Int) (hn: -3000≤n∧n≤3000) (J:Nat) (hJ:(J:Int)=n+K) (hJ2:J≤2045) (w:World):
  Calls Tryz.prog 162 #[.float .f64 (Ieee.double.word neg r),.int .i64 n] w fun e w'=>e= .returned (.float .f64 (Ieee.double.word neg (J*2^52+M)))∧w=w':=by
 obtain ⟨h1,h2,h3,h4,h5⟩:=word_num (neg:=neg) h
 have q0:=eq_zero (neg:=neg) h
 have HI:=hid (fun W=>isInf_any _ h4 W)
 rw [h2] at HI
 have HNN:=hid (fun W=>isNaN_any (Ieee.double.word neg r) W)
 rw [h1] at HNN
 have HNO:=hid (fun W=>normalize_norm (neg:=neg) h hM W)
 have hw:=h.w3 (neg:=neg) hM
 have hm:=h.m
 have hK:K+1<2^11:=by have:=h.fin;omega
 have hl:M-2^52<2^52:=by omega
 have hs:neg.toNat<2:=by cases neg<;>decide
 obtain ⟨E,hE⟩:∃E:Int,E=((K+1:Nat):Int):=⟨_,rfl⟩
 have qE:bits .and .i64 ((Ieee.double.word neg r:Int)/4503599627370496) 2047=E:=by rw [hw,hE];exact field_of hs hK hl
 have hx:Ieee.double.word neg r≤18446744073709551615:=by omega
 have hE2:1≤E∧E≤2047:=by omega
 have hj:Rep (J*2^52+M) J M:=⟨rfl,hm,.inr hM,by omega,by omega⟩
 have hz:=hj.w3 (neg:=neg) hM
 have qA:bits .andNot .u64 ((Ieee.double.word neg r:Nat):Int) 9218868437227405312=((w3 neg.toNat 0 (M-2^52):Nat):Int):=by
  rw [hw]
  exact (bits_andNot _ 9218868437227405312 (w3_lt hs hK hl) (by decide)).trans (by rw [andnot_exp hs hK hl])
 have qO:bits .or .u64 ((w3 neg.toNat 0 (M-2^52):Nat):Int) ((((J+1)*2^52:Nat):Int))=((Ieee.double.word neg (J*2^52+M):Nat):Int):=by
  rw [hz]
  exact (bits_or _ _ (w3_lt hs (by decide) hl) (by omega)).trans (by rw [or_exp (by omega) hl])
 have q1:=mul_one (neg:=neg) hj
 have hf1:¬n+(E-1023)< -1075:=by omega
 have hf2:¬1023<n+(E-1023):=by omega
 have hf3:¬n+(E-1023)< -1022:=by omega
 have hJ3:n+(E-1023)+1023=(J:Int)+1:=by omega
 have qP:bits .or .u64 ((w3 neg.toNat 0 (M-2^52):Nat):Int) ((n+(E-1023)+1023)*4503599627370496)=((Ieee.double.word neg (J*2^52+M):Nat):Int):=by
  rw [←qO,hJ3]
  congr 1
 have qM:∀W:World,(binOp .mul 61 (.float .f64 4607182418800017408) (.float .f64 (Ieee.double.word neg (J*2^52+M)))).run Tryz.prog W= .ok (.float .f64 (Ieee.double.word neg (J*2^52+M))) W:=fun W=>run_float_arith W .mul _ .f64 _ _ _ q1
 clear hw h hM h5 h3 hK hl hs h4 hE hm hj hz qO hJ hJ3 q1
 generalize Ieee.double.word neg r=x at*
 generalize Ieee.double.word neg (J*2^52+M)=z at*
 generalize w3 neg.toNat 0 (M-2^52)=y at*
 go_enter Tryz.func162,Tryz.ntmps162
 go_wp2_with (first
  |(go_at_call 207;((with_reducible refine (HI.out _).mono ?_);rintro e w1 ⟨rfl,rfl⟩))
  |(go_at_call 208;((with_reducible refine (HNN.out _).mono ?_);rintro e w1 ⟨rfl,rfl⟩))
  |(go_at_call 209;((with_reducible refine (HNO.out _).mono ?_);rintro e w1 ⟨rfl,rfl⟩)))
 go_ret
 exact ⟨rfl,rfl⟩
set_option maxHeartbeats 1000000 in
theorem ldexp_den (neg:Bool) {r K M:Nat} (h:Rep r K M) (hM:2^52≤M) (n:Int) (hn: -3000≤n∧n≤3000) (J:Nat) (hJ:(J:Int)=n+K+53) (hJ2:J<53) (w:World):
  Calls Tryz.prog 162 #[.float .f64 (Ieee.double.word neg r),.int .i64 n] w (LdPost neg K M n w):=by
 obtain ⟨h1,h2,h3,h4,h5⟩:=word_num (neg:=neg) h
 have q0:=eq_zero (neg:=neg) h
 have HI:=hid (fun W=>isInf_any _ h4 W)
 rw [h2] at HI
 have HNN:=hid (fun W=>isNaN_any (Ieee.double.word neg r) W)
 rw [h1] at HNN
 have HNO:=hid (fun W=>normalize_norm (neg:=neg) h hM W)
 have hw:=h.w3 (neg:=neg) hM
 have hm:=h.m
 have hK:K+1<2^11:=by have:=h.fin;omega
 have hl:M-2^52<2^52:=by omega
 have hs:neg.toNat<2:=by cases neg<;>decide
 obtain ⟨E,hE⟩:∃E:Int,E=((K+1:Nat):Int):=⟨_,rfl⟩
 have qE:bits .and .i64 ((Ieee.double.word neg r:Int)/4503599627370496) 2047=E:=by rw [hw,hE];exact field_of hs hK hl
 have hx:Ieee.double.word neg r≤18446744073709551615:=by omega
 have hE2:1≤E∧E≤2047:=by omega
 have hj:Rep (J*2^52+M) J M:=⟨rfl,hm,.inr hM,by omega,by omega⟩
 have hz:=hj.w3 (neg:=neg) hM
 have qA:bits .andNot .u64 ((Ieee.double.word neg r:Nat):Int) 9218868437227405312=((w3 neg.toNat 0 (M-2^52):Nat):Int):=by
  rw [hw]
  exact (bits_andNot _ 9218868437227405312 (w3_lt hs hK hl) (by decide)).trans (by rw [andnot_exp hs hK hl])
 have qO:bits .or .u64 ((w3 neg.toNat 0 (M-2^52):Nat):Int) ((((J+1)*2^52:Nat):Int))=((Ieee.double.word neg (J*2^52+M):Nat):Int):=by
  rw [hz]
  exact (bits_or _ _ (w3_lt hs (by decide) hl) (by omega)).trans (by rw [or_exp (by omega) hl])
 obtain ⟨Z,q1,qz,qz2⟩:=mul_num (c:=4368491638549381120) (neg:=false) rep_m53 (by decide) (word_num (neg:=neg) hj).1
 have hrep:∀(t L I:Nat),Rep t L I→Same2 M ((K:Int)+n) L I→Z=Ieee.double.word neg t:=fun t L I ht hv=>by
  have:=mul_rep (n1:=false) (n2:=neg) rep_m53 hj ht (by
   rcases hv with ⟨d,e1,e2⟩|⟨d,e1,e2⟩
   ·exact .inl ⟨d+52,by omega,by rw [e2,Nat.pow_add,Nat.mul_comm,Nat.mul_assoc]⟩
   ·exfalso;omega)
  rw [word_false,show Ieee.double.word neg (J*2^52+M)=_ from rfl] at this
  have e3:=q1.symm.trans this
  rw [show (false^^neg)=neg by simp] at e3
  exact Option.some.inj e3
 have hf1:¬n+(E-1023)< -1075:=by omega
 have hf2:¬1023<n+(E-1023):=by omega
 have hf3:n+(E-1023)< -1022:=by omega
 have hJ3:n+(E-1023)+53+1023=(J:Int)+1:=by omega
 have qP:bits .or .u64 ((w3 neg.toNat 0 (M-2^52):Nat):Int) ((n+(E-1023)+53+1023)*4503599627370496)=((Ieee.double.word neg (J*2^52+M):Nat):Int):=by
  rw [←qO,hJ3]
  congr 1
 have qM:∀W:World,(binOp .mul 61 (.float .f64 4368491638549381120) (.float .f64 (Ieee.double.word neg (J*2^52+M)))).run Tryz.prog W= .ok (.float .f64 Z) W:=fun W=>run_float_arith W .mul _ .f64 _ _ _ q1
 clear hw h hM h5 h3 hK hl hs h4 hE hm hj hz qO hJ hJ3 q1
 generalize Ieee.double.word neg r=x at*
 generalize Ieee.double.word neg (J*2^52+M)=z at*
 generalize w3 neg.toNat 0 (M-2^52)=y at*
 go_enter Tryz.func162,Tryz.ntmps162
 go_wp2_with (first
  |(go_at_call 207;((with_reducible refine (HI.out _).mono ?_);rintro e w1 ⟨rfl,rfl⟩))
  |(go_at_call 208;((with_reducible refine (HNN.out _).mono ?_);rintro e w1 ⟨rfl,rfl⟩))
  |(go_at_call 209;((with_reducible refine (HNO.out _).mono ?_);rintro e w1 ⟨rfl,rfl⟩)))
 go_ret
 exact ⟨⟨_,rfl,qz,qz2,fun a b=>hrep _ _ _ a b⟩,rfl⟩
set_option maxHeartbeats 1000000 in
theorem ldexp_any (neg:Bool) {r K M:Nat} (h:Rep r K M) (hM:2^52≤M) (n:Int) (hn: -3000≤n∧n≤3000) (w:World):Calls Tryz.prog 91 #[.float .f64 (Ieee.double.word neg r),.int .i64 n] w (LdPost neg K M n w):=by
 have HL:Hid (∀W,Calls Tryz.prog 162 #[.float .f64 (Ieee.double.word neg r),.int .i64 n] W (LdPost neg K M n W)):=hid fun W=>by
  by_cases h1:n+K< -53∨2045<n+K
  ·exact ldexp_far neg h hM n hn h1 W
  ·by_cases h2:0≤n+K
   ·obtain ⟨J,hJ⟩:=Int.eq_ofNat_of_zero_le h2
    refine (ldexp_norm neg h hM n hn J hJ.symm (by omega) W).mono ?_
    rintro e w' ⟨rfl,rfl⟩
    have hj:Rep (J*2^52+M) J M:=⟨rfl,h.m,.inr hM,by have:=h.pos;omega,by have:=h.m;omega⟩
    refine ⟨⟨_,rfl,(word_num hj).1,(word_num hj).2.2.2.1,fun {t L I} a b=> ?_⟩,rfl⟩
    rw [Same2.uniq hj a (.inl ⟨0,by omega,by simp⟩) b]
   ·obtain ⟨J,hJ⟩:=Int.eq_ofNat_of_zero_le (show 0≤n+K+53 by omega)
    exact ldexp_den neg h hM n hn J hJ.symm (by omega) W
 generalize Ieee.double.word neg r=x at*
 go_enter Tryz.func91,Tryz.ntmps91
 go_wp2_with (go_at_call 162;((with_reducible refine (HL.out _).mono ?_);rintro e w1 ⟨⟨z,rfl,hz⟩,rfl⟩))
 go_ret
 exact ⟨⟨z,rfl,hz⟩,rfl⟩
attribute [local go_sem] fbits_run frombits_lit Int.toNat_natCast ord_lt ord_eq ord_gt ord_ne
theorem up_53 {M:Nat} (h0:0<M) (h1:M<2^52):∃s,s≤52∧0<s∧2^52≤M*2^s∧M*2^s<2^53:=by
 have l1:2^M.log2≤M:=Nat.log2_self_le (by omega)
 have l2:M<2^(M.log2+1):=Nat.lt_log2_self
 have l3:M.log2<52:=(Nat.log2_lt (by omega)).2 h1
 refine ⟨52-M.log2,by omega,by omega,?_,?_⟩
 ·calc 2^52=2^M.log2*2^(52-M.log2):=by rw [←Nat.pow_add];congr 1;omega
   _≤M*2^(52-M.log2):=Nat.mul_le_mul_right _ l1
 ·calc M*2^(52-M.log2)<2^(M.log2+1)*2^(52-M.log2):=Nat.mul_lt_mul_of_pos_right l2 (Nat.pow_pos (by decide))
   _=2^53:=by rw [←Nat.pow_add];congr 1;omega
theorem normalize_den {r M:Nat} (h:Rep r 0 M) (hM:M<2^52) {t s:Nat} (hs:s≤52) (ht:Rep t (52-s) (M*2^s)) (w:World):
  Calls Tryz.prog 209 #[.float .f64 r] w fun e w'=>e= .returned (.tuple #[.float .f64 t,.int .i64 (-52)])∧w=w':=by
 obtain ⟨h1,h2,h3,h4,h5⟩:=word_num (neg:=false) h
 rw [word_false] at h4 h5
 have HA:=hid (fun W=>abs_any _ h4 W)
 rw [h5] at HA
 have h6:=h.lt
 have q:=lt_small (show r≤2047*2^52 by omega)
 rw [show decide (r<2^52)=true by simp;have:=h.eq;omega] at q
 have hm:Ieee.double.mul r 4841369599423283200=some t:=by
  have:=mul_rep (n1:=false) (n2:=false) h rep_p52 ht (.inl ⟨52-s,by omega,by
   rw [Nat.mul_assoc,←Nat.pow_add];congr 2;omega⟩)
  exact this
 have qM:∀W:World,(binOp .mul 61 (.float .f64 r) (.float .f64 4841369599423283200)).run Tryz.prog W= .ok (.float .f64 t) W:=fun W=>run_float_arith W .mul _ .f64 _ _ _ hm
 clear h h1 h2 h3 h4 h5 h6 ht hM hs hm
 go_enter Tryz.func209,Tryz.ntmps209
 go_wp2_with (go_at_call 90;((with_reducible refine (HA.out _).mono ?_);rintro e w1 ⟨rfl,rfl⟩))
 go_ret2
 exact ⟨rfl,rfl⟩
set_option maxHeartbeats 1000000 in
theorem frexp_core {r q K m:Nat} (c:Int) (hq:Rep q K m) (hm:2^52≤m) (hr0:eqB r 0=false) (hri:isInfB r=false) (hrn:isNan r=false) (hrb:r<2^64) (hc: -52≤c∧c≤0)
  (HN:∀W,Calls Tryz.prog 209 #[.float .f64 r] W fun e w'=>e= .returned (.tuple #[.float .f64 q,.int .i64 c])∧W=w') (w:World):
  Calls Tryz.prog 159 #[.float .f64 r] w fun e w'=>e= .returned (.tuple #[.float .f64 (1021*2^52+m),.int .i64 (c+K-1021)])∧w=w':=by
 have HI:=hid (fun W=>isInf_any r hrb W)
 rw [hri] at HI
 have HNN:=hid (fun W=>isNaN_any r W)
 rw [hrn] at HNN
 have HNO:=hid HN
 have hw:=hq.w3 (neg:=false) hm
 rw [word_false] at hw
 have hK:K+1<2^11:=by have:=hq.fin;omega
 have hl:m-2^52<2^52:=by have:=hq.m;omega
 have hs:false.toNat<2:=by decide
 have hqlt:q<2^63:=by have:=hq.lt;omega
 have qE:bits .and .u64 ((q:Int)/4503599627370496) 2047=(K:Int)+1:=by
  have e:(q:Int)/4503599627370496=((K+1:Nat):Int):=by rw [hw];unfold w3;simp;omega
  rw [e]
  have:=bits_and (K+1) 2047 (by omega) (by decide)
  rw [show (2047:Nat)=2^11-1 by decide,Nat.and_two_pow_sub_one_eq_mod,Nat.mod_eq_of_lt hK] at this
  exact this
 have qA:bits .andNot .u64 (q:Int) 9218868437227405312=((w3 false.toNat 0 (m-2^52):Nat):Int):=by
  rw [hw]
  exact (bits_andNot _ 9218868437227405312 (w3_lt hs hK hl) (by decide)).trans (by rw [andnot_exp hs hK hl])
 have qO:bits .or .u64 ((w3 false.toNat 0 (m-2^52):Nat):Int) 4602678819172646912=((1021*2^52+m:Nat):Int):=by
  have:=(bits_or (w3 false.toNat 0 (m-2^52)) (1022*2^52) (w3_lt hs (by decide) hl) (by decide)).trans (by rw [or_exp (by decide) hl])
  refine Eq.trans this ?_
  unfold w3
  simp
  omega
 obtain ⟨E,hE⟩:∃E:Int,(K:Int)+1=E:=⟨_,rfl⟩
 have hE1:0≤E∧E≤2047:=by omega
 rw [hE] at qE
 obtain ⟨Z,hZ⟩:∃Z,1021*2^52+m=Z:=⟨_,rfl⟩
 rw [hZ] at qO ⊢
 generalize w3 false.toNat 0 (m-2^52)=y at*
 have hfin:Hid (c+K-1021=c+(E-1022)):=by unfold Hid;omega
 rw [hfin.out]
 have hx:(q:Int)≤18446744073709551615:=by omega
 have q2:E-1023+1=E-1022:=by omega
 have q0:=hr0
 clear hq hm hr0 hri hrn hrb HN hw hK hl hs hE hZ hfin hqlt
 go_enter Tryz.func159,Tryz.ntmps159
 go_wp2_with (first
  |(go_at_call 207;((with_reducible refine (HI.out _).mono ?_);rintro e w1 ⟨rfl,rfl⟩))
  |(go_at_call 208;((with_reducible refine (HNN.out _).mono ?_);rintro e w1 ⟨rfl,rfl⟩))
  |(go_at_call 209;((with_reducible refine (HNO.out _).mono ?_);rintro e w1 ⟨rfl,rfl⟩)))
 go_ret2
 exact ⟨rfl,rfl⟩
theorem frexp_any {r K M:Nat} (h:Rep r K M):∃s m:Nat,m=M*2^s∧2^52≤m∧m<2^53∧∀w:World,
  Calls Tryz.prog 89 #[.float .f64 r] w fun e w'=>e= .returned (.tuple #[.float .f64 (1021*2^52+m),.int .i64 ((K:Int)-s-1021)])∧w=w':=by
 obtain ⟨h1,h2,h3,h4,h5⟩:=word_num (neg:=false) h
 have q0:=eq_zero (neg:=false) h
 rw [word_false] at h1 h2 h4 h5 q0
 have fin:∀(s m:Nat),(∀W,Calls Tryz.prog 159 #[.float .f64 r] W fun e w'=>e= .returned (.tuple #[.float .f64 (1021*2^52+m),.int .i64 ((K:Int)-s-1021)])∧W=w')→∀w:World,
   Calls Tryz.prog 89 #[.float .f64 r] w fun e w'=>e= .returned (.tuple #[.float .f64 (1021*2^52+m),.int .i64 ((K:Int)-s-1021)])∧w=w':=by
  intro s m HF w
  replace HF:=hid HF
  obtain ⟨Z,hZ⟩:∃Z,1021*2^52+m=Z:=⟨_,rfl⟩
  obtain ⟨X,hX⟩:∃X,(K:Int)-s-1021=X:=⟨_,rfl⟩
  rw [hZ,hX] at HF ⊢
  clear hZ hX q0 h1 h2 h3 h4 h5 h
  go_enter Tryz.func89,Tryz.ntmps89
  go_wp2_with (go_at_call 159;((with_reducible refine (HF.out _).mono ?_);rintro e w1 ⟨rfl,rfl⟩))
  go_ret2
  exact ⟨rfl,rfl⟩
 by_cases hM:2^52≤M
 ·refine ⟨0,M,by simp,hM,h.m,fin 0 M fun W=> ?_⟩
  have:=frexp_core 0 h hM q0 h2 h1 h4 (by decide) (fun W=>normalize_norm (neg:=false) h hM W) W
  rw [show (0:Int)+K-1021=(K:Int)-(0:Nat)-1021 by omega] at this
  exact this
 ·have hK:K=0:=by have:=h.k;omega
  subst hK
  have hp:0<M:=by have:=h.pos;omega
  obtain ⟨s,s1,s2,s3,s4⟩:=up_53 hp (by omega)
  have ht:Rep ((52-s)*2^52+M*2^s) (52-s) (M*2^s):=⟨rfl,s4,.inr s3,by omega,by omega⟩
  refine ⟨s,M*2^s,rfl,s3,s4,fin s (M*2^s) fun W=> ?_⟩
  have:=frexp_core (-52) ht s3 q0 h2 h1 h4 (by decide) (fun W=>normalize_den h (by omega) s1 ht W) W
  rw [show (-52:Int)+((52-s:Nat):Int)-1021=((0:Nat):Int)-s-1021 by omega] at this
  exact this
end Go.Proofs.YtejleplhmkmegaaGreatDoor
namespace Go.Fl
open Ieee Go.Lib
def tz (m:Nat):Nat:=if h:m=0∨m % 2=1 then 0 else tz (m/2)+1
termination_by m
decreasing_by omega
theorem tz_odd {m:Nat} (h:m % 2=1):tz m=0:=by rw [tz,dif_pos (.inr h)]
theorem tz_even {m:Nat} (h0:0<m) (h:m % 2=0):tz m=tz (m/2)+1:=by rw [tz,dif_neg (by omega)]
theorem tz_spec:∀(m:Nat),0<m→m=m/2^tz m*2^tz m∧m/2^tz m % 2=1:=by
 intro m
 induction m using Nat.strongRecOn with
 |_ m ih=>
  intro h0
  by_cases h:m % 2=1
  ·rw [tz_odd h];simp;exact h
  ·obtain ⟨h1,h2⟩:=ih (m/2) (by omega) (by omega)
   rw [tz_even h0 (by omega)]
   have e:m/2^(tz (m/2)+1)=m/2/2^tz (m/2):=by rw [Nat.pow_succ,Nat.mul_comm,Nat.div_div_eq_div_mul]
   rw [e]
   refine ⟨?_,h2⟩
   rw [Nat.pow_succ,←Nat.mul_assoc,←h1]
   omega
def oddM (m:Nat):Nat:=m/2^tz m
theorem oddM_le (m:Nat):oddM m≤m:=Nat.div_le_self _ _
def finT (r:Nat):List UInt8:=decDigits (oddM (fM r))++112::itoa ((fK r:Int)-1074+tz (fM r))
def bodyT (r:Nat):List UInt8:=if r=2047*2^52 then [105,110,102] else if r=0 then [48] else finT r
def textB (b:Nat):List UInt8:=if isNan b then [110,97,110] else if sgn b then 45::bodyT (b % 2^63) else bodyT (b % 2^63)
end Go.Fl
namespace Go.Proofs.YtejleplhmkmegaaGreatDoor
set_option linter.unusedVariables false
set_option linter.unusedSimpArgs false
set_option maxRecDepth 100000
open Go.ChangeShapes Go.WideShapes Go.ChangeAt Go.RowKit Go.Fl
theorem tz_core (x k idx:Nat) (w:World) (hx0:((x:Int)==0)=false)
  (key:IntKind.u64.wrap (bits BinOp.and IntKind.u64 (x:Int) (IntKind.u64.wrap (-(x:Int)))*285870213051353865)/288230376151711744=(idx:Int))
  (hi:idx<64) (hk:k<64) (hcell:w.cell? ⟨1,idx,none⟩=some (.int .u8 k)):
  Calls Tryz.prog 92 #[.int .u64 (x:Int)] w fun e w'=>e= .returned (.int .i64 (k:Int))∧w'=w:=by
 go_enter Tryz.func92,Tryz.ntmps92
 go_wp2_with (simp only [key])
 go_ret
 exact ⟨rfl,rfl⟩
theorem tz_any (x:Nat) (hx:x<18446744073709551616) (hx0:x≠0) (w:World) (hT:TabAt 1 Lib.deBruijn64tab w):
  Calls Tryz.prog 92 #[.int .u64 (x:Int)] w fun e w'=>e= .returned (.int .i64 (Lib.ctz 64 x:Nat))∧w'=w:=by
 obtain ⟨hlow,hk⟩:=Lib.lowest_bit 64 x hx0 hx
 obtain ⟨hi,htab⟩:=Lib.deBruijn64_at _ hk
 have hcell:=hT _ hi
 rw [htab] at hcell
 exact tz_core x _ _ w (by simp;omega) (tz64_key x _ hx hx0 hlow) hi hk hcell
theorem ctz_tz:∀(f x:Nat),0<x→x<2^f→Lib.ctzFrom f x=tz x
 |0,x,h0,h=>by simp at h;omega
 |f+1,x,h0,h=>by
  unfold Lib.ctzFrom
  split
  ·rename_i h1
   rw [tz_odd h1]
  ·rename_i h1
   rw [tz_even h0 (by omega),ctz_tz f (x/2) (by omega) (by rw [Nat.pow_succ] at h;omega)]
   omega
theorem tz_is (x:Nat) (hx:x<18446744073709551616) (hx0:x≠0) (w:World) (hT:TabAt 1 Lib.deBruijn64tab w):
  Calls Tryz.prog 92 #[.int .u64 (x:Int)] w fun e w'=>e= .returned (.int .i64 (tz x:Nat))∧w'=w:=by
 have:=tz_any x hx hx0 w hT
 have e:Lib.ctz 64 x=tz x:=by unfold Lib.ctz;rw [if_neg hx0];exact ctz_tz 64 x (by omega) hx
 rw [e] at this
 exact this
theorem tz_up:∀(s M:Nat),0<M→tz (M*2^s)=tz M+s∧oddM (M*2^s)=oddM M
 |0,M,h=>by simp
 |s+1,M,h=>by
  have hp:0<2^s:=Nat.pow_pos (by decide)
  have h2:M*2^(s+1)=2*(M*2^s):=by rw [Nat.pow_succ,Nat.mul_comm (2^s),Nat.mul_left_comm]
  obtain ⟨i1,i2⟩:=tz_up s M h
  have h3:0<M*2^s:=Nat.mul_pos h hp
  generalize M*2^s=y at*
  have h4:=tz_even (m:=2*y) (by omega) (by omega)
  have h5:2*y/2=y:=by omega
  rw [h5] at h4
  rw [h2]
  refine ⟨by omega,?_⟩
  rw [←i2]
  unfold oddM
  rw [h4,Nat.pow_succ',←Nat.div_div_eq_div_mul,h5]
section scopes
variable {F:Fence} {n:Nat} {P:Program} {b:Frame} {Q:Exit→Act→World→Prop} {a:Act} {w:World} {k:List Item} {cs:List Frame}
end scopes
structure Prot (n₀ lo hi:Nat) (W W':World):Prop where
 size:W.heap.size≤W'.heap.size
 low:∀k,k<n₀→W'.heap[k]? =W.heap[k]?
 mid:∀k,lo≤k→k<hi→W'.heap[k]? =W.heap[k]?
theorem Prot.refl (n₀ lo hi:Nat) (W:World):Prot n₀ lo hi W W:=⟨Nat.le_refl _,fun _ _=>rfl,fun _ _ _=>rfl⟩
theorem Prot.trans {n₀ lo hi:Nat} {A B C:World} (h:Prot n₀ lo hi A B) (k:Prot n₀ lo hi B C):Prot n₀ lo hi A C:=
 ⟨Nat.le_trans h.size k.size,fun i hi=>(k.low i hi).trans (h.low i hi),fun i h1 h2=>(k.mid i h1 h2).trans (h.mid i h1 h2)⟩
theorem Prot.cell {n₀ lo hi:Nat} {W W':World} (h:Prot n₀ lo hi W W') {b o:Nat} (hb:b<n₀∨lo≤b∧b<hi):W'.cell? ⟨b,o,none⟩=W.cell? ⟨b,o,none⟩:=
 World.cell?_of_block (w:=W) (hb.elim (fun h1=>h.low b h1) (fun h1=>h.mid b h1.1 h1.2))
theorem Prot.frozen {n₀ lo hi:Nat} {W W':World} (h:Prot n₀ lo hi W W') {b o:Nat} (hb:b<n₀∨lo≤b∧b<hi):W'.frozen? ⟨b,o,none⟩=W.frozen? ⟨b,o,none⟩:=
 World.frozen?_of_block (w:=W) (hb.elim (fun h1=>h.low b h1) (fun h1=>h.mid b h1.1 h1.2))
theorem Prot.putObj {n₀ lo hi:Nat} (W:World) (l:Nat) (o':Obj) (hl:n₀≤l∧hi≤l):Prot n₀ lo hi W (W.putObj l o'):=
 ⟨by simp,fun k hk=>World.putObj_heap_other (by omega),fun k h1 h2=>World.putObj_heap_other (by omega)⟩
def Abide (B:Nat) (p:World→Prop):Prop:=
 ∀W W' row,p W→W.grownBy W' row→(∀r,row=some r→B≤r∧∃o:Obj,W.heap[r]? =some o∧o.isWalk=true)→p W'
structure Turn (D:Nat) (w w':World):Prop where
 grown:w.grownBy w' (some D)
 size:w'.heap.size=w.heap.size
 obj:∃o:Obj,w.heap[D]? =some o∧o.isCells=false
theorem Turn.putObj {D:Nat} {w:World} {o o':Obj} (h:w.heap[D]? =some o) (hc:o.isCells=false):Turn D w (w.putObj D o'):=⟨grownBy_putObj' w D o',by simp,o,h,hc⟩
theorem Turn.block {D:Nat} {w w':World} (h:Turn D w w') {k:Nat} (hk:k<w.heap.size) (hne:k≠D):w'.heap[k]? =w.heap[k]? :=h.grown.block k hk (fun e=>hne (by cases e;rfl))
theorem Turn.lt {D:Nat} {w w':World} (h:Turn D w w'):D<w.heap.size:=by obtain ⟨o,ho,_⟩:=h.obj;exact (Array.getElem?_eq_some_iff.1 ho).1
def Stab (B:Nat) (p:World→Prop):Prop:=
 ∀W W' row,p W→W.grownBy W' row→(∀r,row=some r→B≤r∧∃o:Obj,W.heap[r]? =some o∧o.isCells=false)→p W'
theorem Stab.alloc {B:Nat} {p:World→Prop} (h:Stab B p) {W:World} (o:Obj) (hs:p W):p (W.alloc o):=h W _ none hs (World.grownBy_alloc W o none) (fun r e=>by cases e)
theorem Stab.turn {B D:Nat} {p:World→Prop} (h:Stab B p) {W W':World} (hs:p W) (ht:Turn D W W') (hB:B≤D):p W':=h W W' (some D) hs ht.grown (fun r e=>by cases e;exact ⟨hB,ht.obj⟩)
theorem Stab.putObj {B:Nat} {p:World→Prop} (h:Stab B p) {W:World} {l:Nat} {o:Obj} (o':Obj) (hs:p W) (hB:B≤l) (hl:W.heap[l]? =some o) (ho:o.isCells=false):p (W.putObj l o'):=
 h.turn hs (Turn.putObj hl ho) hB
theorem Stab.and {B:Nat} {p q:World→Prop} (hp:Stab B p) (hq:Stab B q):Stab B (fun W=>p W∧q W):=fun W W' row hs hg hr=>⟨hp W W' row hs.1 hg hr,hq W W' row hs.2 hg hr⟩
theorem Stab.ex {B:Nat} {α:Sort _} {p:α→World→Prop} (hp:∀x,Stab B (p x)):Stab B (fun W=>∃x,p x W):=fun W W' row ⟨x,hs⟩ hg hr=>⟨x,hp x W W' row hs hg hr⟩
theorem Stab.all {B:Nat} {α:Sort _} {p:α→World→Prop} (hp:∀x,Stab B (p x)):Stab B (fun W=>∀x,p x W):=fun W W' row hs hg hr x=>hp x W W' row (hs x) hg hr
theorem Stab.pure {B:Nat} (p:Prop):Stab B (fun _=>p):=fun _ _ _ hs _ _=>hs
theorem Stab.block {B b:Nat} {c:Array Value} {t:TypeId} {f:Nat×Nat}:Stab B (fun W=>W.heap[b]? =some (.cells c t f)):=fun W W' row hs hg hr=>
 (hg.block b (Array.getElem?_eq_some_iff.1 hs).1 (fun e=>by obtain ⟨_,o,ho,hc⟩:=hr b e.symm;rw [hs] at ho;cases ho;cases hc)).trans hs
theorem Stab.cell {B:Nat} {a:Addr} {v:Value}:Stab B (fun W=>W.cell? a=some v):=fun W W' row hs hg hr=>cell_kept hs hg (fun r e=>(hr r e).2)
theorem Stab.free {B:Nat} {a:Addr}:Stab B (fun W=>(∃v,W.cell? a=some v)∧W.frozen? a=false):=fun W W' row ⟨⟨v,hs⟩,hf⟩ hg hr=>⟨⟨v,cell_kept hs hg (fun r e=>(hr r e).2)⟩,(frozen_kept hs hg (fun r e=>(hr r e).2)).trans hf⟩
theorem Stab.row {B base:Nat} {e:TypeId} {size:Nat} {v:Value} {n:Nat} {xs:List Value}:Stab B (fun W=>W.ownsRow base e size v n xs):=fun W W' row hs hg hr=>by
 refine hs.kept hg ?_
 obtain ⟨_,h2⟩:=hs
 rcases h2 with ⟨rfl,_⟩|⟨g,cap,cur,rfl,_,hh,_⟩
 ·exact .inl rfl
 ·refine .inr fun e'=> ?_
  obtain ⟨_,o,ho,hc⟩:=hr g e'.symm
  rw [hh] at ho;cases ho;cases hc
theorem Stab.below {B n₀:Nat} {w₀:World} (hn:n₀≤w₀.heap.size) (hB:n₀≤B):Stab B (fun W=>Below n₀ w₀ W):=fun W W' row hs hg hr=>
 hs.grown hg (Nat.le_trans hn hs.size) (fun k e=>Nat.le_trans hB (hr k e).1)
structure Kept (B n₀ lo hi:Nat) (W W':World):Prop where
 from_:KeepsFrom B W W'
 prot:Prot n₀ lo hi W W'
theorem Kept.refl (B n₀ lo hi:Nat) (W:World):Kept B n₀ lo hi W W:=⟨KeepsFrom.refl _ _,Prot.refl _ _ _ _⟩
theorem Kept.trans {B n₀ lo hi:Nat} {X Y Z:World} (h:Kept B n₀ lo hi X Y) (k:Kept B n₀ lo hi Y Z):Kept B n₀ lo hi X Z:=⟨h.from_.trans k.from_,h.prot.trans k.prot⟩
theorem Kept.alloc {B n₀ lo hi:Nat} {X W:World} (h:Kept B n₀ lo hi X W) (hn:n₀≤W.heap.size) (hh:hi≤W.heap.size) (o:Obj):Kept B n₀ lo hi X (W.alloc o):=
 h.trans ⟨(KeepsOthers.alloc W o).from _,by simp,fun k hk=>Below.heap_alloc W o k (by omega),fun k h1 h2=>Below.heap_alloc W o k (by omega)⟩
theorem Kept.drew {B n₀ lo hi:Nat} {X W:World} (h:Kept B n₀ lo hi X W):Kept B n₀ lo hi X W.drew:=h.trans ⟨(KeepsOthers.drew W).from _,Nat.le_refl _,fun _ _=>rfl,fun _ _ _=>rfl⟩
theorem Kept.setCell {B n₀ lo hi:Nat} {X W:World} (h:Kept B n₀ lo hi X W) {p:Addr} (hn:n₀≤p.block) (hm:p.block<lo∨hi≤p.block) (u:Value):Kept B n₀ lo hi X (W.setCell p u):=
 h.trans ⟨(KeepsOthers.setCell W p u).from _,by simp [World.setCell],fun k hk=>Below.heap_setCell W p u k (by omega),fun k h1 h2=>Below.heap_setCell W p u k (by omega)⟩
theorem Kept.step {B n₀ lo hi:Nat} {X W w1:World} (h:Kept B n₀ lo hi X W) (hn:n₀≤W.heap.size) (hh:hi≤W.heap.size) (hb:Below W.heap.size W w1):Kept B n₀ lo hi X w1:=
 h.trans ⟨⟨hb.size,fun k o _ hk _=>(hb.block k (Array.getElem?_eq_some_iff.1 hk).1).trans hk⟩,hb.size,fun k hk=>hb.block k (by omega),fun k h1 h2=>hb.block k (by omega)⟩
theorem Kept.grown {B n₀ lo hi:Nat} {X W W':World} {row:Option Nat} (h:Kept B n₀ lo hi X W) (hg:W.grownBy W' row) (hn:n₀≤W.heap.size) (hh:hi≤W.heap.size)
  (hr:∀k,row=some k→n₀≤k∧(k<lo∨hi≤k)∧∀o,W.heap[k]? =some o→o.isCells=true):Kept B n₀ lo hi X W':=
 h.trans ⟨(KeepsOthers.of_grownBy hg (fun j o e ho=>(hr j e).2.2 o ho)).from _,hg.size,
  fun k hk=>hg.block k (by omega) (fun e=>by have:=(hr k e.symm).1;omega),
  fun k h1 h2=>hg.block k (by omega) (fun e=>by have:=(hr k e.symm).2.1;omega)⟩
def roundQ (B n₀ lo hi:Nat) (I:Nat→World→Prop) (Ix:Code→Nat→World→Prop) (k:Nat) (W:World):Exit→Act→World→Prop
 | .normal,_,W'=>Kept B n₀ lo hi W W'∧I (k+1) W'
 | .ret,_,W'=>Kept B n₀ lo hi W W'∧Ix .ret k W'
 | .exit id,_,W'=>Kept B n₀ lo hi W W'∧Ix (.exit id) k W'
 | .goto t,_,W'=>Kept B n₀ lo hi W W'∧Ix (.goto t) k W'
 | .panic _,_,_=>False
 | .outgrown,_,_=>False
abbrev mark (D:Nat):Deferred:={ target:= .collected D,args:= #[]}
theorem calls_marks {P:Program} {f:FuncId} {fn:Func} {c:Code} {args:Array Value} {w:World} {R:Ending→World→Prop}
  (hf:P.funcs[f]? =some fn) (hb:fn.body=some c)
  (h:c.wp P (bodyPostM Fence.wide 10 P fn R) { tmps:=args++Array.replicate (fn.ntmps-args.size) undef,defers:=[]} w):Calls P f args w R:=
 callsIn_wide.1 (callsIn_of_wp_marks (F:=Fence.wide) (n:=10) hf hb trivial (wpIn_wide.2 h) rfl)
theorem ret_mark {P:Program} {fn:Func} {R:Ending→World→Prop} {tmps:Array Value} {w:World} {D:Nat} {e:Exit} (he:e= .ret∨e= .normal) (hK:w.heap[D]? =some (.deferred (some [])))
  (h:∀w',Turn D w w'→∃v,(results fn tmps).run P w'= .ok v w'∧R (.returned v) w'):bodyPostM Fence.wide 10 P fn R e { tmps,defers:=[mark D]} w:=by
 obtain ⟨v,hr,hR⟩:=h _ (Turn.putObj hK rfl)
 rcases he with rfl|rfl
 ·exact ⟨by simp,.inl ⟨_,_,rfl,run_takeDeferred hK,⟨v,hr,hR⟩⟩⟩
 ·exact ⟨by simp,.inl ⟨_,_,rfl,run_takeDeferred hK,⟨v,hr,hR⟩⟩⟩
set_option linter.unusedVariables false
set_option linter.unusedSimpArgs false
open Go.RowKit
def SeqF (P:Program) (g:Nat) (lb:Array Value) (enc:Nat→Array Value) (n₀ lo hi:Nat) (N:Nat) (w:World):Prop:=
 ∀(n l:Nat) (J Jx:Nat→World→Prop) (W:World),1≤n→Below w.heap.size w W→(∀k,Abide W.heap.size (J k))→(∀k,Abide W.heap.size (Jx k))→
  (∀k,k<N→∀W1,J k W1→YieldAt Fence.wide (n-1) P l (enc k) W1 fun e W'=>
   (e= .returned (.bool true)∧J (k+1) W'∧Prot n₀ lo hi W1 W')∨(e= .returned (.bool false)∧Jx k W'))→
  (∀W',¬J N W')→J 0 W→
  CallsIn Fence.wide n P g (#[.func (.yield l) #[] #[]]++lb) W fun e W'=>(∃v,e= .returned v)∧∃k,k<N∧Jx k W'
set_option maxHeartbeats 1000000 in
theorem wp_rangeF {P:Program} {g:Operand} {ps:Array Tmp} {assign body:Code} {Q:Exit→Act→World→Prop} {a:Act} {w:World}
  {gf:Nat} {lb:Array Value} (hg:a.eval g= .func (.func gf) #[] lb) (eg:∀args w,(callFunc gf args).run P w= .ok (.enter gf args) w)
  {enc:Nat→Array Value} {n₀ lo hi:Nat} {N:Nat} (hseq:SeqF P gf lb enc n₀ lo hi N w) (hn:n₀≤w.heap.size∧hi≤w.heap.size) (hps:∀k,(enc k).size=ps.size)
  (I:Nat→World→Prop) (Ix:Code→Nat→World→Prop) (hI:∀k,Stab w.heap.size (I k)) (hIx:∀c k,Stab w.heap.size (Ix c k)) (hNF:∀W,¬I N W) (h0:I 0 w)
  (hround:∀(l k:Nat) (W:World),k<N→I k W→w.heap.size≤l→l<W.heap.size→w.heap.size≤W.heap.size→
   assign.wpIn (Fence.wide.inRound l) 8 P (Exit.then (fun a₁ W1=>Kept w.heap.size n₀ lo hi W W1∧∀W2,Turn l W1 W2→body.wpIn (Fence.wide.inRound l) 8 P (roundQ w.heap.size n₀ lo hi I Ix k W2) a₁ W2) (fun _ _ _=>False))
    { tmps:=(ps.zip (enc k)).foldl (fun t (p,v)=>t.setIfInBounds p v) a.tmps,defers:=[]} W)
  (hstop:∀(D:Nat) (c:Code) (k:Nat) (W:World),w.heap.size≤D→k<N→Ix c k W→W.heap[D]? =some (.deferred (some []))→c.wp P Q { a with defers:=mark D::a.defers} W):
  (Code.rangeFunc g ps assign body).wp P Q a w:=by
 rw [←wpIn_wide (n:=10)]
 refine wpIn_rangeFunc ?_
 intro fn hfn
 obtain ⟨rec,hrec⟩:∃rec:LoopState→Option Code→Loop,rec=fun st pe=>{ state:=st,pending:=pe,fn,tmps:=a.tmps,params:=ps,assign,body,defers:=w.heap.size}:=⟨_,rfl⟩
 obtain ⟨W1,hW1⟩:∃W1,(w.alloc (.deferred (some []))).alloc (.loop (rec .ready none))=W1:=⟨_,rfl⟩
 have hL1:W1.heap[w.heap.size+1]? =some (.loop (rec .ready none)):=by
  rw [←hW1];have:=World.alloc_heap_new (w.alloc (.deferred (some []))) (.loop (rec .ready none));rwa [World.size_alloc] at this
 have hK1:W1.heap[w.heap.size]? =some (.deferred (some [])):=by
  rw [←hW1];exact (Below.heap_alloc _ _ _ (by simp)).trans (World.alloc_heap_new w _)
 have hI1:I 0 W1:=by rw [←hW1];exact (hI 0).alloc _ ((hI 0).alloc _ h0)
 have hb1:Below w.heap.size w W1:=by rw [←hW1];exact ((Below.refl _ w).alloc (Nat.le_refl _) _).alloc (by simp) _
 have hs1:W1.heap.size=w.heap.size+1+1:=by rw [←hW1];simp
 refine ⟨w.heap.size+1,[mark w.heap.size],W1,{ target:= .fn (.func gf) lb,args:= #[.func (.yield (w.heap.size+1)) #[] #[]]},W1,gf,
  #[.func (.yield (w.heap.size+1)) #[] #[]]++lb,W1,?_,?_,?_,?_,fun _=>by omega,?_⟩
 ·rw [←hW1,hrec];exact run_enterLoop_outer _ _ _ _ _
 ·simp only [resolve,hg]
  simp [go_sem]
 ·intro f' hf';trivial
 ·simp [invoke,go_sem,eg]
 ·have hnw:∀{A:World} {row:Option Nat},(∀r,row=some r→W1.heap.size≤r∧∃o:Obj,A.heap[r]? =some o∧o.isWalk=true)→(∀r,row=some r→w.heap.size≤r∧∃o:Obj,A.heap[r]? =some o∧o.isCells=false):=
   fun hr r e=>by obtain ⟨hB,o,ho,hw⟩:=hr r e;exact ⟨by omega,o,ho,Obj.not_cells_of_walk hw⟩
  refine (hseq (10-1) (w.heap.size+1)
   (fun k W=>I k W∧W.heap[w.heap.size+1]? =some (.loop (rec .ready none))∧W.heap[w.heap.size]? =some (.deferred (some [])))
   (fun k W=>∃c,Ix c k W∧W.heap[w.heap.size+1]? =some (.loop (rec .done (some c)))∧W.heap[w.heap.size]? =some (.deferred (some [])))
   W1 (by omega) hb1
   (fun k A B row hs hg' hr=>⟨hI k A B row hs.1 hg' (hnw hr),(grownBy_keeps hg' (fun r e=>(hr r e).2) hs.2.1 rfl).trans hs.2.1,(grownBy_keeps hg' (fun r e=>(hr r e).2) hs.2.2 rfl).trans hs.2.2⟩)
   (fun k A B row hs hg' hr=>by
    obtain ⟨c,hc,hl,hk⟩:=hs
    exact ⟨c,hIx c k A B row hc hg' (hnw hr),(grownBy_keeps hg' (fun r e=>(hr r e).2) hl rfl).trans hl,(grownBy_keeps hg' (fun r e=>(hr r e).2) hk rfl).trans hk⟩)
   ?_ (fun W h=>hNF W h.1) ⟨hI1,hL1,hK1⟩).mono ?_
  ·-- one round
   rintro k hlen W ⟨hi',hl,hk⟩
   have hlt:w.heap.size+1<W.heap.size:=(Array.getElem?_eq_some_iff.1 hl).1
   have hy:=run_yield (P:=P) (args:=enc k) hl (by rw [hrec];exact hps _)
   rw [hrec] at hy
   refine ⟨fn,_,assign,body,hy,roundIn_of_wpIn hfn ?_⟩
   clear hy
   refine wpIn_mono (hround _ k W hlen hi' (by omega) hlt (by omega)) ?_
   intro e a' Wa hpost
   cases e with
   |normal=>
    obtain ⟨hka,hbody⟩:=hpost
    have hla:=hka.from_.same _ _ (by omega) hl rfl
    have hda:=hka.from_.same _ _ (Nat.le_refl _) hk rfl
    have hlta:w.heap.size+1<Wa.heap.size:=(Array.getElem?_eq_some_iff.1 hla).1
    refine ⟨_,run_beginRound hla (by rw [hrec]),?_⟩
    have hl2:(Wa.putObj (w.heap.size+1) (.loop { rec .ready none with state:= .busy})).heap[w.heap.size+1]? =some (.loop { rec .ready none with state:= .busy}):=World.putObj_heap_same hlta
    have hk2:(Wa.putObj (w.heap.size+1) (.loop { rec .ready none with state:= .busy})).heap[w.heap.size]? =some (.deferred (some [])):=(World.putObj_heap_other (by omega)).trans hda
    have hw2:Prot n₀ lo hi Wa (Wa.putObj (w.heap.size+1) (.loop { rec .ready none with state:= .busy})):=Prot.putObj _ _ _ (by omega)
    refine wpIn_mono (hbody _ (Turn.putObj hla rfl)) ?_
    have fin:∀(jump:Option Code) (W3:World),KeepsFrom w.heap.size (Wa.putObj (w.heap.size+1) (.loop { rec .ready none with state:= .busy})) W3→
      (Instr.endRound (w.heap.size+1) jump).run P W3= .ok (.bool jump.isNone) (W3.putObj (w.heap.size+1) (.loop (rec (if jump.isNone then .ready else .done) jump)))∧
      W3.heap[w.heap.size+1]? =some (.loop { rec .ready none with state:= .busy})∧
      (W3.putObj (w.heap.size+1) (.loop (rec (if jump.isNone then .ready else .done) jump))).heap[w.heap.size+1]? =some (.loop (rec (if jump.isNone then .ready else .done) jump))∧
      (W3.putObj (w.heap.size+1) (.loop (rec (if jump.isNone then .ready else .done) jump))).heap[w.heap.size]? =some (.deferred (some [])):=fun jump W3 hk3=>by
     have hl3:=hk3.same _ _ (by omega) hl2 rfl
     have:=run_endRound (P:=P) jump hl3
     rw [hrec] at this ⊢
     exact ⟨this,by rw [hrec] at hl3;exact hl3,World.putObj_heap_same (Array.getElem?_eq_some_iff.1 hl3).1,(World.putObj_heap_other (by omega)).trans (hk3.same _ _ (Nat.le_refl _) hk2 rfl)⟩
    rintro e a3 W3 hp
    cases e with
    |normal=>
     obtain ⟨hk3,hi3⟩:=hp
     obtain ⟨hr,hl3,hl4,hk4⟩:=fin none W3 hk3.from_
     exact ⟨_,_,hr,.inl ⟨rfl,⟨(hI _).putObj _ hi3 (by omega) hl3 rfl,hl4,hk4⟩,hka.prot.trans ((hw2.trans hk3.prot).trans (Prot.putObj _ _ _ (by omega)))⟩⟩
    |ret=>
     obtain ⟨hk3,hi3⟩:=hp
     obtain ⟨hr,hl3,hl4,hk4⟩:=fin (some .ret) W3 hk3.from_
     exact ⟨_,_,hr,.inr ⟨rfl,.ret,(hIx _ _).putObj _ hi3 (by omega) hl3 rfl,hl4,hk4⟩⟩
    |exit id=>
     obtain ⟨hk3,hi3⟩:=hp
     obtain ⟨hr,hl3,hl4,hk4⟩:=fin (some (.exit id)) W3 hk3.from_
     exact ⟨_,_,hr,.inr ⟨rfl,.exit id,(hIx _ _).putObj _ hi3 (by omega) hl3 rfl,hl4,hk4⟩⟩
    |goto t=>
     obtain ⟨hk3,hi3⟩:=hp
     obtain ⟨hr,hl3,hl4,hk4⟩:=fin (some (.goto t)) W3 hk3.from_
     exact ⟨_,_,hr,.inr ⟨rfl,.goto t,(hIx _ _).putObj _ hi3 (by omega) hl3 rfl,hl4,hk4⟩⟩
    |panic ch=>exact hp.elim
    |outgrown=>exact hp.elim
   |ret=>exact hpost.elim
   |exit id=>exact hpost.elim
   |goto t=>exact hpost.elim
   |panic ch=>exact hpost.elim
   |outgrown=>exact hpost.elim
  ·-- behind the iterator
   rintro e W2 ⟨⟨v,rfl⟩,⟨k,hkl,c,hi',hl,hk⟩⟩
   exact ⟨some c,_,by have:=run_endLoop (P:=P) hl (by rw [hrec];simp);rw [hrec] at this;exact this,wpIn_wide.2 (hstop _ c k _ (Nat.le_refl _) hkl ((hIx c k).putObj _ hi' (by omega) hl rfl) ((World.putObj_heap_other (by omega)).trans hk))⟩
end Go.Proofs.YtejleplhmkmegaaGreatDoor
namespace Go.Fl
open Ieee
def quo (A n i:Nat):Nat:=A*2^i/(n*2^128)
def stepI (A n:Nat):Nat→Nat→Nat
 |0,i=>i
 |f+1,i=>if 2^52≤quo A n i then i else stepI A n f (i+1)
def theI (A n:Nat):Nat:=stepI A n 300 0
theorem stepI_spec (A n:Nat):∀(f i:Nat),(∀j,j<i→quo A n j<2^52)→(∃j,j<i+f∧2^52≤quo A n j)→2^52≤quo A n (stepI A n f i)∧∀j,j<stepI A n f i→quo A n j<2^52
 |0,i,h,⟨j,hj,hq⟩=>by have:=h j (by omega);omega
 |f+1,i,h,⟨j,hj,hq⟩=>by
  unfold stepI
  by_cases hi:2^52≤quo A n i
  ·rw [if_pos hi];exact ⟨hi,h⟩
  ·rw [if_neg hi]
   exact stepI_spec A n f (i+1) (fun k hk=>by
    by_cases e:k=i
    ·subst e;omega
    ·exact h k (by omega)) ⟨j,by omega,hq⟩
theorem theI_spec {A n:Nat} (hA:0<A) (hA2:A<2^128) (hn:0<n) (hn2:n<2^35):2^52≤quo A n (theI A n)∧(∀j,j<theI A n→quo A n j<2^52)∧52≤theI A n∧theI A n≤215:=by
 have hp:0<n*2^128:=Nat.mul_pos hn (by decide)
 have h215:2^52≤quo A n 215:=by
  unfold quo
  rw [Nat.le_div_iff_mul_le hp]
  have e:(2:Nat)^215=2^52*2^35*2^128:=by decide
  have h1:n*2^128≤2^35*2^128:=Nat.mul_le_mul_right _ (by omega)
  calc 2^52*(n*2^128)≤2^52*(2^35*2^128):=Nat.mul_le_mul_left _ h1
   _=2^215:=by decide
   _≤A*2^215:=Nat.le_mul_of_pos_left _ hA
 obtain ⟨h1,h2⟩:=stepI_spec A n 300 0 (fun j hj=>absurd hj (Nat.not_lt_zero _)) ⟨215,by omega,h215⟩
 refine ⟨h1,h2,?_,?_⟩
 ·rcases Nat.lt_or_ge (theI A n) 52 with h|h
  ·exfalso
   have h3:quo A n (theI A n)≤2^51:=by
    unfold quo
    have h4:A*2^theI A n≤2^128*2^51:=Nat.mul_le_mul (by omega) (Nat.pow_le_pow_right (by decide) (by omega))
    have h5:(A*2^theI A n)/(n*2^128)≤(2^51*(n*2^128))/(n*2^128):=Nat.div_le_div_right (by
     have:2^128≤n*2^128:=Nat.le_mul_of_pos_left _ hn
     omega)
    rw [Nat.mul_div_cancel _ hp] at h5
    exact h5
   have h6:2^52≤quo A n (theI A n):=h1
   omega
  ·exact h
 ·rcases Nat.lt_or_ge 215 (theI A n) with h|h
  ·have:=h2 215 h;omega
  ·exact h
theorem quo_succ (A n i:Nat) (hn:0<n):quo A n (i+1)=2*quo A n i+quo A n (i+1) % 2:=by
 have h:quo A n i=quo A n (i+1)/2:=by
  unfold quo
  have e:A*2^(i+1)=A*2^i*2:=by rw [Nat.pow_succ 2 i,Nat.mul_assoc]
  rw [e,Nat.div_div_eq_div_mul,Nat.mul_div_mul_right _ _ (by decide:0<2)]
 omega
theorem quo_top {A n:Nat} (hA:0<A) (hA2:A<2^128) (hn:0<n) (hn2:n<2^35):quo A n (theI A n)<2^53:=by
 obtain ⟨h1,h2,h3,h4⟩:=theI_spec hA hA2 hn hn2
 obtain ⟨i,hi⟩:∃i,theI A n=i+1:=⟨theI A n-1,by omega⟩
 rw [hi] at h2 ⊢
 have:=h2 i (by omega)
 have:=quo_succ A n i hn
 omega
def upB (A n i:Nat):Bool:=(quo A n (i+1) % 2==1)&&((A*2^(i+1) % (n*2^128) !=0)||(quo A n i % 2==1))
def ofR (A n:Nat):Nat:=(1202-theI A n)*2^52+(quo A n (theI A n)+(upB A n (theI A n)).toNat)
set_option linter.unusedVariables false
theorem ofR_lt {A n:Nat} (hA:0<A) (hA2:A<2^128) (hn:0<n) (hn2:n<2^35):0<ofR A n∧ofR A n<2047*2^52:=by
 obtain ⟨a1,a2,a3,a4⟩:=theI_spec hA hA2 hn hn2
 have at_:=quo_top hA hA2 hn hn2
 have hu:(upB A n (theI A n)).toNat≤1:=by cases upB A n (theI A n)<;>simp
 unfold ofR
 omega
end Go.Fl
namespace Go.Fl
set_option linter.unusedVariables false
def xA (A k:Nat):Nat:=A*2^k % 2^128
def hiA (A k:Nat):Nat:=xA A k/2^64
def loA (A k:Nat):Nat:=xA A k % 2^64
def tA (A k:Nat):Nat:=A*2^k/2^128
theorem pow_step (A k:Nat):A*2^(k+1)=2*(A*2^k):=by rw [Nat.pow_succ 2 k,←Nat.mul_assoc,Nat.mul_comm]
theorem hi_lt (A k:Nat):hiA A k<2^64:=by unfold hiA xA;omega
theorem lo_lt (A k:Nat):loA A k<2^64:=by unfold loA;omega
theorem hi_zero {A:Nat} (h:A<2^128):hiA A 0=A/2^64:=by unfold hiA xA;rw [Nat.pow_zero,Nat.mul_one,Nat.mod_eq_of_lt h]
theorem lo_zero {A:Nat} (h:A<2^128):loA A 0=A % 2^64:=by unfold loA xA;rw [Nat.pow_zero,Nat.mul_one,Nat.mod_eq_of_lt h]
theorem tA_zero {A:Nat} (h:A<2^128):tA A 0=0:=by unfold tA;rw [Nat.pow_zero,Nat.mul_one,Nat.div_eq_of_lt h]
theorem hi_succ (A k:Nat):hiA A (k+1)=2*hiA A k % 2^64+loA A k/2^63:=by
 unfold hiA loA xA
 rw [pow_step]
 generalize A*2^k=y
 omega
theorem lo_succ (A k:Nat):loA A (k+1)=2*loA A k % 2^64:=by
 unfold loA xA
 rw [pow_step]
 generalize A*2^k=y
 omega
theorem tA_succ (A k:Nat):tA A (k+1)=2*tA A k+hiA A k/2^63:=by
 unfold tA hiA xA
 rw [pow_step]
 generalize A*2^k=y
 omega
theorem top_le (A k:Nat):hiA A k/2^63≤1:=by have:=hi_lt A k;omega
theorem quo_t (A n k:Nat):quo A n k=tA A k/n:=by unfold quo tA;rw [Nat.mul_comm n,Nat.div_div_eq_div_mul]
theorem rest_succ (A n k:Nat):tA A (k+1) % n=(2*(tA A k % n)+hiA A k/2^63) % n:=by
 rw [tA_succ,Nat.add_mod,Nat.mul_mod]
 conv=>rhs;rw [Nat.add_mod,Nat.mul_mod,Nat.mod_mod]
theorem digit_succ (A n k:Nat) (hn:0<n):(2*(tA A k % n)+hiA A k/2^63)/n=quo A n (k+1) % 2:=by
 have h1:=quo_succ A n k hn
 rw [quo_t A n (k+1),quo_t A n k,tA_succ] at h1
 rw [quo_t A n (k+1),tA_succ]
 have h2:=Nat.div_add_mod (tA A k) n
 generalize tA A k/n=q at*
 generalize tA A k % n=r at*
 rw [←h2] at h1 ⊢
 have h3:2*(n*q+r)+hiA A k/2^63=(2*r+hiA A k/2^63)+n*(2*q):=by rw [Nat.mul_add,Nat.mul_left_comm 2 n q];omega
 rw [h3,Nat.add_mul_div_left _ _ hn] at h1 ⊢
 omega
theorem more_iff (A n k:Nat):(A*2^k % (n*2^128)=0)↔(tA A k % n=0∧hiA A k=0∧loA A k=0):=by
 rw [Nat.mul_comm n,Nat.mod_mul]
 unfold tA hiA loA xA
 generalize A*2^k=y
 generalize y/2^128 % n=z
 omega
def moreB (A n k:Nat):Bool:=A*2^k % (n*2^128) !=0
theorem moreB_eq (A n k:Nat):moreB A n k=(!decide (tA A k % n=0)||(!decide (hiA A k=0)|| !decide (loA A k=0))):=by
 unfold moreB
 have h:=more_iff A n k
 rw [Bool.eq_iff_iff]
 simp only [bne_iff_ne,ne_eq,Bool.or_eq_true,Bool.not_eq_true',decide_eq_false_iff_not]
 rw [h]
 omega
theorem or_bit (a b:Nat) (hb:b≤1):2*a|||b=2*a+b:=by
 have:=Nat.two_pow_add_eq_or_of_lt (i:=1) (show b<2^1 by omega) a
 simpa using this.symm
end Go.Fl
namespace Go.Proofs.YtejleplhmkmegaaGreatDoor
set_option linter.unusedVariables false
set_option linter.unusedSimpArgs false
open Go.RowKit
theorem blk_set {w:World} {b o:Nat} {cs:Array Value} {t:TypeId} {fz:Nat×Nat} {v:Value} (h:w.heap[b]? =some (.cells cs t fz)):(w.setCell ⟨b,o,none⟩ v).heap[b]? =some (.cells (cs.setIfInBounds o v) t fz):=by
 have hlt:=(Array.getElem?_eq_some_iff.1 h).1
 have h':w.heap[b]= .cells cs t fz:=by simpa [Array.getElem?_eq_getElem hlt] using h
 show (w.heap.modify b _)[b]? =_
 rw [Array.getElem?_eq_getElem (by simpa using hlt),Array.getElem_modify_self,h']
 rfl
theorem blk_cell {w:World} {b o:Nat} {cs:Array Value} {t:TypeId} {fz:Nat×Nat} (h:w.heap[b]? =some (.cells cs t fz)):w.cell? ⟨b,o,none⟩=cs[o]? :=by simp [World.cell?,h]
theorem blk_free {w:World} {b o:Nat} {cs:Array Value} {t:TypeId} (h:w.heap[b]? =some (.cells cs t (0,0))):w.frozen? ⟨b,o,none⟩=false:=by simp [World.frozen?,h]
theorem blk_lt {w:World} {b:Nat} {o:Obj} (h:w.heap[b]? =some o):b<w.heap.size:=(Array.getElem?_eq_some_iff.1 h).1
end Go.Proofs.YtejleplhmkmegaaGreatDoor
