/- Texts joined: RtC, RtD, WideA, Quiet, QTail, WideB, WideC, WideD, RtE, Info, PkA, RtF, RtG, FlR. -/
import Derived.Test.YtejleplhmkmegaaGreatDoorOc
import Derived.Stop.RegionWithIn
import Derived.Sort.QuietIn
import Derived.Sort.LoopGhostIn
import Derived.Test.YtejleplhmkmegaaGreatDoorOb
import Derived.Test.YtejleplhmkmegaaGreatDoorOa
import Derived.Laws.Externs
import Derived.BigQuiet
import Derived.StillTail
import Derived.Deep.DeepCutAuto
import Derived.Deep.RegionWith
set_option linter.unusedVariables false
set_option linter.unusedSimpArgs false
namespace Go.Proofs.YtejleplhmkmegaaGreatDoor
set_option maxRecDepth 100000
open Go.ChangeShapes Go.WideShapes Go.ChangeAt Go.RowKit Go.Fl
attribute [local go_sem] Oper.semAt_some
theorem quotient_any (h l n:Int) (w:World):
  Calls Tryz.prog 227 #[.agg #[.int .i64 h,.int .u64 l],.int .u64 n] w fun e w'=>e= .returned (.func (.func 239) #[] #[.pointer (some ⟨w.heap.size,0,none⟩),.pointer (some ⟨w.heap.size+1,0,none⟩)])∧
   w'=(w.alloc (.cells #[.int .i64 h,.int .u64 l] 126)).alloc (.cells #[.int .u64 n] 95):=by
 go_enter Tryz.func227,Tryz.ntmps227
 go_wp2
 go_ret
 exact ⟨rfl,rfl⟩
theorem yield_bb {e:Ending} {A B C:Prop} (h:(e= .returned (.bool true)∧A∧B)∨(e= .returned (.bool false)∧C)):∃bb:Bool,e= .returned (.bool bb)∧((bb=true∧A∧B)∨(bb=false∧C)):=by
 rcases h with ⟨h1,h2⟩|⟨h1,h2⟩
 ·exact ⟨true,h1,.inl ⟨rfl,h2⟩⟩
 ·exact ⟨false,h1,.inr ⟨rfl,h2⟩⟩
theorem two_at {w:World} {b:Nat} {x y:Value} {t:TypeId} (h:w.heap[b]? =some (.cells #[x,y] t (0,0))):w.cell? ⟨b,0,none⟩=some x∧w.cell? ⟨b,1,none⟩=some y∧w.frozen? ⟨b,0,none⟩=false∧w.frozen? ⟨b,1,none⟩=false:=by
 unfold World.cell? World.frozen?
 rw [h]
 simp
theorem ne_zero (x:Nat):(!decide (x=0))=((x:Int) !=0):=by rw [Bool.eq_iff_iff];simp
set_option maxHeartbeats 4000000 in
theorem quotient_seq (A n:Nat) (hA:A<2^128) (hn:0<n) (hn2:n≤20000000000) (h:Int) (hh:IntKind.u64.wrap h=((A/2^64:Nat):Int)) (ab nb N:Nat) (n₀ lo hi:Nat) (w:World)
  (ha:w.heap[ab]? =some (.cells #[.int .i64 h,.int .u64 ((A % 2^64:Nat):Int)] 126 (0,0))) (hb:w.heap[nb]? =some (.cells #[.int .u64 (n:Int)] 95 (0,0))) (pa:ab<n₀∨lo≤ab∧ab<hi) (pb:nb<n₀∨lo≤nb∧nb<hi):
  SeqF Tryz.prog 239 #[.pointer (some ⟨ab,0,none⟩),.pointer (some ⟨nb,0,none⟩)] (fun k:Nat=> #[.int .u64 ((quo A n (k+1) % 2:Nat):Int),.bool (moreB A n (k+1))]) n₀ lo hi N w:=by
 intro m0 lp J Jx W hm0 hW hJ hJx hY hNF h0
 obtain ⟨m1,rfl⟩:∃m1,m0=m1+1:=⟨m0-1,by omega⟩
 have hzW:=hW.size
 have da:=(hW.block ab (blk_lt ha)).trans ha
 have db:=(hW.block nb (blk_lt hb)).trans hb
 obtain ⟨a0,a1,_,_⟩:=two_at da
 have b0:=cell_of_one db
 clear ha hb hW
 refine callsIn_of_wp Tryz.func239 rfl trivial ?_ rfl
 simp only [Tryz.ntmps239,List.size_toArray,List.length_cons,List.length_nil,Nat.reduceAdd,Nat.reduceSub,Array.replicate_succ,Array.replicate_zero,List.push_toArray,List.append_toArray,List.nil_append,List.cons_append]
 gi_wp2
 gi_quiet (fail)
 gi_wp2
 have hJd:J 0 (W.drewN nq):=hJ 0 W _ none h0 ⟨rfl,rfl,rfl,Nat.le_refl _,fun _ _ _=>rfl⟩ (fun r e=>by cases e)
 have hda:(W.drewN nq).heap[ab]? =some (.cells #[.int .i64 h,.int .u64 ((A % 2^64:Nat):Int)] 126 (0,0)):=da
 have hdb:(W.drewN nq).heap[nb]? =some (.cells #[.int .u64 (n:Int)] 95 (0,0)):=db
 clear a0 a1 b0 hh
 gi_loopg [4,5,6,7] N (fun m hi lo rest dg wr=>∃k,k+m=N∧hi= .int .u64 ((hiA A k:Nat):Int)∧lo= .int .u64 ((loA A k:Nat):Int)∧rest= .int .u64 ((tA A k % n:Nat):Int)∧J k wr∧wr.heap[nb]? =some (.cells #[.int .u64 (n:Int)] 95 (0,0)))
 case atStart=>exact ⟨0,by omega,by rw [hi_zero hA];simp,by rw [lo_zero hA];simp,by rw [tA_zero hA];simp,hJd,hdb⟩
 case round=>
  obtain ⟨k,hk,rfl,rfl,rfl,hJk,hbn⟩:=hrel
  by_cases hm:gk=0
  ·subst hm
   obtain rfl:k=N:=by omega
   exact (hNF _ hJk).elim
  ·have b0:=cell_of_one hbn
   have hkN:k<N:=by omega
   have HY:=hid (hY k hkN)
   have HREL:=hid (fun (W5:World) (a:J (k+1) W5) (b:W5.heap[nb]? =some (.cells #[.int .u64 (n:Int)] 95 (0,0)))=>
    (show ∃k',k'+(gk-1)=N∧Value.int .u64 ((hiA A (k+1):Nat):Int)= .int .u64 ((hiA A k':Nat):Int)∧Value.int .u64 ((loA A (k+1):Nat):Int)= .int .u64 ((loA A k':Nat):Int)∧Value.int .u64 ((tA A (k+1) % n:Nat):Int)= .int .u64 ((tA A k' % n:Nat):Int)∧J k' W5∧W5.heap[nb]? =some (.cells #[.int .u64 (n:Int)] 95 (0,0)) from ⟨k+1,by omega,rfl,rfl,rfl,a,b⟩))
   have x1:=hi_lt A k;have x2:=lo_lt A k
   have x3:tA A k % n<n:=Nat.mod_lt _ hn
   have x4:=top_le A k
   have y1:=hi_succ A k;have y2:=lo_succ A k;have y3:=rest_succ A n k;have y4:=digit_succ A n k hn;have y5:=moreB_eq A n (k+1)
   have z1:=hi_lt A (k+1);have z2:=lo_lt A (k+1)
   have z3:tA A (k+1) % n<n:=Nat.mod_lt _ hn
   generalize hiA A k=H at*
   generalize loA A k=L at*
   generalize tA A k % n=T at*
   generalize hiA A (k+1)=H' at*
   generalize loA A (k+1)=L' at*
   generalize tA A (k+1) % n=T' at*
   have v8:quo A n (k+1) % 2≤1:=by omega
   generalize quo A n (k+1) % 2=dg at*
   generalize moreB A n (k+1)=mo at*
   obtain ⟨t,ht⟩:∃t,2*T+H/2^63=t:=⟨_,rfl⟩
   rw [ht] at y3 y4
   have r1:bits .or .u64 ((T:Int)*2) ((H:Int)/9223372036854775808)=(t:Int):=by
    rw [show (T:Int)*2=((2*T:Nat):Int) by omega,show (H:Int)/9223372036854775808=((H/2^63:Nat):Int) by omega,bits_or _ _ (by omega) (by omega),or_bit _ _ x4,ht]
   have r2:bits .or .u64 (IntKind.u64.wrap ((H:Int)*2)) ((L:Int)/9223372036854775808)=(H':Int):=by
    have e1:IntKind.u64.wrap ((H:Int)*2)=((2*(H % 2^63):Nat):Int):=by rw [IntKind.wrap_u64];omega
    rw [e1,show (L:Int)/9223372036854775808=((L/2^63:Nat):Int) by omega,bits_or _ _ (by omega) (by omega),or_bit _ _ (by omega),y1]
    congr 1
    omega
   have r3:IntKind.u64.wrap ((L:Int)*2)=(L':Int):=by rw [IntKind.wrap_u64];omega
   have r4:(t:Int)/(n:Int)=(dg:Int):=by rw [←y4];simp
   have r5:(t:Int) % (n:Int)=(T':Int):=by rw [y3];simp
   have v1:(H:Int)≤18446744073709551615:=by omega
   have v2:(L:Int)≤18446744073709551615:=by omega
   have v3:(T:Int)≤20000000000:=by omega
   have v4:(t:Int)≤40000000001:=by omega
   have v5:(0:Int)<(n:Int):=by omega
   have v6:¬(n:Int)=0:=by omega
   have v7:(dg:Int)≤1:=by omega
   have HJ:=hid hJk;have HBN:=hid hbn
   clear y1 y2 y3 ht x1 x2 x3 x4 z1 z2 z3 hJk hbn hA hJd hda hdb da db
   have hcase:(∃b1 b2 b3:Bool,((T':Int) !=0)=b1∧((H':Int) !=0)=b2∧((L':Int) !=0)=b3∧mo=(b1||(b2||b3))):=
    ⟨_,_,_,rfl,rfl,rfl,by rw [y5,ne_zero,ne_zero,ne_zero]⟩
   obtain ⟨b1,b2,b3,f1,f2,f3,rfl⟩:=hcase
   clear y5
   obtain ⟨fn,tmps,assign,body,hy,hR4⟩:=HY.out wr HJ.out
   (try dsimp only at hy)
   cases b1
   case' false=>cases b2
   case' false.false=>cases b3
   all_goals
    simp only [Bool.true_or,Bool.false_or,Bool.or_true,Bool.or_false] at hy
    gi_wp2_with ((refine (hR4.mono (fun _ _ h=>yield_bb h)).mono ?_);rintro e W5 ⟨bb,rfl,h5'⟩;have h5:=hid h5';clear h5')
    all_goals
     rcases h5.out with ⟨rfl,hJ5,hP5⟩|⟨rfl,hJx5⟩
     ·first
       |contradiction
       |(gi_roundg (gk-1)
         case rel=>exact HREL.out _ hJ5 ((pb.elim (fun q=>hP5.low _ q) (fun q=>hP5.mid _ q.1 q.2)).trans HBN.out)
         case measure=>omega)
       |(exfalso;simp_all;done)
     ·first
       |contradiction
       |(refine bodyPost_ret (results_none rfl _ _ _) rfl ?_
         exact ⟨⟨_,rfl⟩,k,hkN,hJx5⟩)
       |(exfalso;simp_all;done)
open Go.Shelf
attribute [local go_sem] Oper.semAt_some
theorem callsIn_any {n:Nat} {P:Program} {l':Nat} {f:FuncId} {args:Array Value} {w:World} {R:Ending→World→Prop} (h:Calls P f args w R):CallsIn (Fence.wide.inRound l') n P f args w R:=
 ⟨trivial,(callsIn_wide (n:=n)).2 h|>.2⟩
theorem bla_le:∀(f x:Nat),Lib.bitLenAux f x≤f
 |0,_=>Nat.le_refl _
 |f+1,x=>by
  unfold Lib.bitLenAux
  have:=bla_le f (x/2)
  split<;>omega
theorem bl_53 {m:Nat} (h:m<2^53):((Lib.bitLen m:Nat):Int)=if 2^52≤m then 53 else (Lib.bitLen m:Int):=by
 split
 ·rename_i h2
  rw [Lib.bitLen_shift 52 m h2 (by omega),show m/2^52=1 by omega]
  rfl
 ·rfl
theorem bl_lt {m:Nat} (h:m<2^52):Lib.bitLen m≤52:=by
 unfold Lib.bitLen
 rw [Lib.bitLenAux_fuel 52 m h 64 (by omega)]
 exact bla_le _ _
theorem bl_dec {m:Nat} (h:m<2^53):(((Lib.bitLen m:Nat):Int)==53)=decide (2^52≤m):=by
 by_cases h2:2^52≤m
 ·rw [bl_53 h,if_pos h2];simp [h2]
 ·have:=bl_lt (show m<2^52 by omega)
  rw [Bool.eq_iff_iff]
  simp
  omega
theorem float_nat {m:Nat} (h1:2^52≤m) (h2:m≤2^53):∃r K M,Rep r K M∧2^52≤M∧1074≤K∧floatOfInt .f64 (m:Int)=r∧∀i:Nat,i≤215→Rep ((1202-i)*2^52+m) (K+128-i) M:=by
 have e:floatOfInt .f64 (m:Int)=Ieee.double.nearest false m 0:=by
  unfold floatOfInt FloatKind.nearest FloatKind.encode
  show Ieee.double.write _=_
  unfold Ieee.Format.write
  have:decide ((m:Int)<0)=false:=by simp
  simp only [this,Int.natAbs_natCast]
 by_cases h:m<2^53
 ·have hR:Rep (1074*2^52+m) 1074 m:=⟨rfl,h,.inr h1,by omega,by omega⟩
  refine ⟨_,1074,m,hR,h1,by omega,?_,fun i hi=>⟨by rw [show 1074+128-i=1202-i by omega],h,.inr h1,by omega,by omega⟩⟩
  rw [e]
  exact near_rep false hR (mag:=m) (p:=1074) (.inl ⟨0,by omega,by simp⟩)
 ·obtain rfl:m=2^53:=by omega
  have hR:Rep (1075*2^52+2^52) 1075 (2^52):=⟨rfl,by decide,by decide,by decide,by decide⟩
  refine ⟨_,1075,2^52,hR,by decide,by omega,?_,fun i hi=>⟨by omega,by decide,.inr (by decide),by decide,by omega⟩⟩
  rw [e]
  exact near_rep false hR (mag:=2^53) (p:=1074) (.inl ⟨1,by omega,by decide⟩)
theorem int_odd (m:Nat):(((m:Nat):Int) % 2==1)=(m % 2==1):=by rw [Bool.eq_iff_iff];simp;omega
theorem bits_odd {m:Nat} (h:m<2^53):bits .and .u64 (m:Int) 1=(m:Int) % 2:=by
 have:=bits_and m 1 (by omega) (by decide)
 rw [show ((1:Nat):Int)=1 from rfl] at this
 rw [this,Nat.and_one_is_mod]
 omega
theorem div_end {m i:Nat} (h1:2^52≤m) (h2:m≤2^53) (hi:i≤215):∃r,floatOfInt .f64 (m:Int)=r∧∀W,Calls Tryz.prog 91 #[.float .f64 r,.int .i64 (128-(i:Int))] W fun e w'=>e= .returned (.float .f64 ((1202-i)*2^52+m))∧W=w':=by
 obtain ⟨r,K,M,hR,hM,hKK,hn1,hr2⟩:=float_nat h1 h2
 refine ⟨r,hn1,fun W=> ?_⟩
 have hr3:=hr2 i hi
 have hl:=ldexp_any false hR hM (128-(i:Int)) (by omega) W
 rw [word_false] at hl
 refine hl.mono ?_
 rintro e w' ⟨⟨z,rfl,_,_,hz⟩,rfl⟩
 have:=hz hr3 (.inl ⟨0,by omega,by simp⟩)
 rw [word_false] at this
 rw [this]
 exact ⟨rfl,rfl⟩
def dvI (w:World) (A n i:Nat) (k:Nat) (X:World):Prop:=
 k≤i∧X.heap[w.heap.size+1]? =some (.cells #[.int .u64 ((quo A n k:Nat):Int)] 95 (0,0))∧X.heap[w.heap.size+1+1]? =some (.cells #[.int .i64 (128-(k:Int))] 3 (0,0))∧
 X.heap[w.heap.size+1+1+1]? =some (.cells #[.bool false] 4 (0,0))∧X.heap[w.heap.size+1+1+1+1]? =some (.cells #[.bool false] 4 (0,0))∧Below w.heap.size w X
def dvX (w:World) (A n i:Nat) (c:Code) (k:Nat) (X:World):Prop:=
 c= .exit 0∧X.heap[w.heap.size+1]? =some (.cells #[.int .u64 ((quo A n i:Nat):Int)] 95 (0,0))∧X.heap[w.heap.size+1+1]? =some (.cells #[.int .i64 (127-(i:Int))] 3 (0,0))∧
 X.heap[w.heap.size+1+1+1]? =some (.cells #[.bool (moreB A n (i+1))] 4 (0,0))∧X.heap[w.heap.size+1+1+1+1]? =some (.cells #[.bool (quo A n (i+1) % 2==1)] 4 (0,0))∧Below w.heap.size w X
theorem dvI_stab {w:World} {A n i B:Nat} (hB:w.heap.size≤B) (k:Nat):Stab B (dvI w A n i k):=
 Stab.and (Stab.pure _) (Stab.and Stab.block (Stab.and Stab.block (Stab.and Stab.block (Stab.and Stab.block (Stab.below (Nat.le_refl _) hB)))))
theorem dvX_stab {w:World} {A n i B:Nat} (hB:w.heap.size≤B) (c:Code) (k:Nat):Stab B (dvX w A n i c k):=
 Stab.and (Stab.pure _) (Stab.and Stab.block (Stab.and Stab.block (Stab.and Stab.block (Stab.and Stab.block (Stab.below (Nat.le_refl _) hB)))))
set_option maxHeartbeats 4000000 in
theorem divided_any (A n:Nat) (hA0:0<A) (hA:A<2^128) (hn:0<n) (hn2:n≤20000000000) (h:Int) (hh:IntKind.u64.wrap h=((A/2^64:Nat):Int)) (w:World):
  Calls Tryz.prog 186 #[.agg #[.int .i64 h,.int .u64 ((A % 2^64:Nat):Int)],.int .u64 (n:Int)] w fun e w'=>e= .returned (.float .f64 (ofR A n))∧Below w.heap.size w w':=by
 obtain ⟨a1,a2,a3,a4⟩:=theI_spec hA0 hA hn (show n<2^35 by omega)
 have a5:=quo_top hA0 hA hn (show n<2^35 by omega)
 obtain ⟨i,hi⟩:∃i,theI A n=i:=⟨_,rfl⟩
 have hof:ofR A n=(1202-i)*2^52+(quo A n i+(upB A n i).toNat):=by unfold ofR;rw [hi]
 rw [hi] at a1 a2 a3 a4 a5
 have HOF:=hid hof
 have HS:=hid (fun N n₀ lo hi' W a b c d e f=>quotient_seq A n hA hn hn2 h hh a b N n₀ lo hi' W c d e f)
 have HA1:=hid a1;have HA2:=hid a2;have HA5:=hid a5;have HN:=hid hn
 have HQ0:Hid (quo A n 0=0):=by
  unfold Hid quo
  rw [Nat.pow_zero,Nat.mul_one]
  exact Nat.div_eq_of_lt (Nat.lt_of_lt_of_le hA (Nat.le_mul_of_pos_left _ hn))
 clear hof hi a1 a2 a5 hh hA0 hA
 obtain ⟨L,hL⟩:∃L,A % 2^64=L:=⟨_,rfl⟩
 rw [hL] at HS ⊢
 clear hL
 refine calls_marks Tryz.func186 rfl ?_
 simp only [Tryz.ntmps186,List.size_toArray,List.length_cons,List.length_nil,Nat.reduceAdd,Nat.reduceSub,Array.replicate_succ,Array.replicate_zero,List.push_toArray,List.append_toArray,List.nil_append,List.cons_append]
 go_wp2
 refine wp_scope_fwd ?_
 go_wp2
 refine wp_label ?_
 go_wp2_with (go_at_call 227;go_loud ((with_reducible refine (quotient_any _ _ _ _).mono ?_);rintro e w3 ⟨rfl,hw3⟩))
 clear hw3
 refine wp_rangeF (gf:=239) (lb:= #[.pointer (some ⟨w.heap.size+1+1+1+1+1,0,none⟩),.pointer (some ⟨w.heap.size+1+1+1+1+1+1,0,none⟩)]) rfl (enters_of Tryz.func239 (by kernel_rfl) rfl)
  (HS.out (i+1) w.heap.size (w.heap.size+1+1+1+1+1) (w.heap.size+1+1+1+1+1+1+1) _ (w.heap.size+1+1+1+1+1) (w.heap.size+1+1+1+1+1+1) Bk Bk (by omega) (by omega)) (by simp;omega) (fun _=>rfl) (dvI w A n i) (dvX w A n i) (dvI_stab (by simp;omega)) (dvX_stab (by simp;omega)) (fun W h=>Nat.not_succ_le_self i h.1) ?start ?round ?stop
 case start=>
  refine ⟨Nat.zero_le _,?_,?_,?_,?_,Gr⟩
  ·(simp (disch:=first|omega|(simp only [World.size_alloc,World.size_setCell,World.size_drew];done)|(simp only [World.size_alloc,World.size_setCell,World.size_drew];omega)) only [heap_at,heap_past,heap_set_other,heap_set_same]);rw [HQ0.out];rfl
  ·(simp (disch:=first|omega|(simp only [World.size_alloc,World.size_setCell,World.size_drew];done)|(simp only [World.size_alloc,World.size_setCell,World.size_drew];omega)) only [heap_at,heap_past,heap_set_other,heap_set_same]);simp
  ·exact Bk
  ·exact Bk
 case round=>
  intro ln k W hkN hI hl hlt hW
  obtain ⟨hki,h1,h2,h3,h4,hbel⟩:=hI
  simp only [World.size_alloc] at hl hW
  gi_wp2
  refine ⟨Kept.refl _ _ _ _ _,fun W2 hT=> ?_⟩
  have hI2:=(dvI_stab (A:=A) (n:=n) (i:=i) (Nat.le_refl w.heap.size) k).turn ⟨hki,h1,h2,h3,h4,hbel⟩ hT (by omega)
  have hzW:W2.heap.size=W.heap.size:=hT.size
  clear h1 h2 h3 h4 hbel hT
  obtain ⟨_,h1,h2,h3,h4,hbel⟩:=hI2
  have c1:=cell_of_one h1;have f1:=free_of_one h1
  have c2:=cell_of_one h2;have f2:=free_of_one h2
  have c3:=cell_of_one h3;have f3:=free_of_one h3
  have c4:=cell_of_one h4;have f4:=free_of_one h4
  have m53:quo A n k<2^53:=by
   by_cases e:k=i
   ·rw [e];exact HA5.out
   ·have:=HA2.out k (by omega);omega
  have hlen:=bl_dec m53
  have hd1:quo A n (k+1) % 2≤1:=by omega
  have hqs:=quo_succ A n k HN.out
  have HLN:=hid (fun W=>Tryz.bits_Len64 ((quo A n k:Nat):Int) W (by omega) (by omega))
  have hk64:((quo A n k:Nat):Int)≤9007199254740992:=by omega
  have hik:(k:Int)≤215:=by omega
  have HM53:=hid m53
  have hB1:Below w.heap.size w W2:=hbel
  clear m53 hbel
  by_cases hki2:k=i
  ·subst hki2
   have hb:(((Lib.bitLen (quo A n k):Nat):Int)==53)=true:=by rw [hlen];simpa using HA1.out
   clear hlen hqs
   generalize hmo:moreB A n (k+1)=mo at*
   generalize hm0:quo A n k=m at*
   generalize hm1:quo A n (k+1)=m1 at*
   have HMO:=hid hmo;have HM0:=hid hm0;have HM1:=hid hm1
   clear hmo hm0 hm1
   rw [Int.toNat_natCast] at HLN
   gi_wp2_with (refine ⟨trivial,(callsIn_any (HLN.out _)).mono ?_⟩;rintro e w4 ⟨rfl,rfl⟩)
   refine ⟨?_,rfl,?_,?_,?_,?_,?_⟩
   ·exact Kept.setCell (Kept.setCell (Kept.setCell (Kept.refl _ _ _ _ _) (by simp;omega) (.inl (show w.heap.size+1+1<w.heap.size+1+1+1+1+1 by omega)) _) (by simp;omega) (.inl (show w.heap.size+1+1+1+1<w.heap.size+1+1+1+1+1 by omega)) _) (by simp;omega) (.inl (show w.heap.size+1+1+1<w.heap.size+1+1+1+1+1 by omega)) _
   ·rw [HM0.out];exact (heap_set_other (by omega)).trans ((heap_set_other (by omega)).trans ((heap_set_other (by omega)).trans h1))
   ·rw [show (127-(k:Int))=128-(k:Int)-1 by omega];exact (heap_set_other (by omega)).trans ((heap_set_other (by omega)).trans (heap_set_same h2))
   ·rw [HMO.out];exact heap_set_same ((heap_set_other (by omega)).trans ((heap_set_other (by omega)).trans h3))
   ·rw [HM1.out,←int_odd];exact (heap_set_other (by omega)).trans (heap_set_same ((heap_set_other (by omega)).trans h4))
   ·exact ((hB1.setCell (by dsimp only;omega) _).setCell (by dsimp only;omega) _).setCell (by dsimp only;omega) _
  ·have hb:(((Lib.bitLen (quo A n k):Nat):Int)==53)=false:=by rw [hlen];have:=HA2.out k (by omega);simp;omega
   have hor:bits .or .u64 (((quo A n k:Nat):Int)*2) (((quo A n (k+1):Nat):Int) % 2)=((quo A n (k+1):Nat):Int):=by
    rw [show ((quo A n k:Nat):Int)*2=((2*quo A n k:Nat):Int) by omega,show ((quo A n (k+1):Nat):Int) % 2=((quo A n (k+1) % 2:Nat):Int) by omega,bits_or _ _ (by omega) (by omega),or_bit _ _ hd1,←hqs]
   clear hlen hqs
   generalize hmo:moreB A n (k+1)=mo at*
   generalize hm0:quo A n k=m at*
   generalize hm1:quo A n (k+1)=m1 at*
   have HMO:=hid hmo;have HM0:=hid hm0;have HM1:=hid hm1
   clear hmo hm0 hm1
   rw [Int.toNat_natCast] at HLN
   gi_wp2_with (refine ⟨trivial,(callsIn_any (HLN.out _)).mono ?_⟩;rintro e w4 ⟨rfl,rfl⟩)
   refine ⟨?_,by omega,?_,?_,?_,?_,?_⟩
   ·exact Kept.setCell (Kept.setCell (Kept.refl _ _ _ _ _) (by simp;omega) (.inl (show w.heap.size+1+1<w.heap.size+1+1+1+1+1 by omega)) _) (by simp) (.inl (show w.heap.size+1<w.heap.size+1+1+1+1+1 by omega)) _
   ·rw [HM1.out];exact heap_set_same ((heap_set_other (by omega)).trans h1)
   ·rw [show (128-((k+1:Nat):Int))=128-(k:Int)-1 by omega];exact (heap_set_other (by omega)).trans (heap_set_same h2)
   ·exact (heap_set_other (by omega)).trans ((heap_set_other (by omega)).trans h3)
   ·exact (heap_set_other (by omega)).trans ((heap_set_other (by omega)).trans h4)
   ·exact (hB1.setCell (by dsimp only;omega) _).setCell (by dsimp only;omega) _
 case stop=>
  intro D c k X hD hkN hX hKD
  obtain ⟨rfl,h1,h2,h3,h4,hbel⟩:=hX
  simp only [World.size_alloc] at hD
  have c1:=cell_of_one h1;have f1:=free_of_one h1
  have c2:=cell_of_one h2
  have c3:=cell_of_one h3
  have c4:=cell_of_one h4
  have hzX:=blk_lt hKD
  have m1:=HA1.out;have m2:=HA5.out
  have hup:upB A n i=((quo A n (i+1) % 2==1)&&(moreB A n (i+1)||(quo A n i % 2==1))):=rfl
  obtain ⟨Z,hZ⟩:∃Z:Bool→Nat,∀b,Z b=(1202-i)*2^52+(quo A n i+b.toNat):=⟨_,fun _=>rfl⟩
  have HZ:Hid (ofR A n=Z (upB A n i)):=by unfold Hid;rw [HOF.out,hZ]
  clear HOF
  generalize quo A n i=m at*
  generalize moreB A n (i+1)=mo at*
  generalize (quo A n (i+1) % 2==1)=dg at*
  generalize upB A n i=up at*
  have hodd:=bits_odd m2
  have hodd2:=int_odd m
  obtain ⟨od,hod⟩:∃od,(m % 2==1)=od:=⟨_,rfl⟩
  rw [hod] at hup hodd2
  clear hod
  have key:∀b:Bool,∃r,floatOfInt .f64 ((m:Int)+(b.toNat:Int))=r∧∀W,Calls Tryz.prog 91 #[.float .f64 r,.int .i64 (127-(i:Int)+1)] W fun e w'=>e= .returned (.float .f64 (Z b))∧W=w':=fun b=>by
   have hb1:b.toNat≤1:=by cases b<;>decide
   obtain ⟨r,h1,h2⟩:=div_end (m:=m+b.toNat) (i:=i) (by omega) (by omega) (by omega)
   refine ⟨r,by rw [←h1,Int.natCast_add],fun W=> ?_⟩
   rw [show (127-(i:Int)+1)=128-(i:Int) by omega,hZ]
   exact h2 W
  have m64:(m:Int)≤9007199254740992:=by omega
  have i64:(i:Int)≤215:=by omega
  have hbel2:=hid hbel;have hKD2:=hid hKD;have hX1:=hid h1
  have hlX1:=blk_lt h1
  have hDX:w.heap.size+1≠D:=fun e=>by subst e;rw [h1] at hKD;cases hKD
  clear h1 h2 h3 h4 hbel hKD m1 m2
  cases up
  case' true=>
   obtain ⟨r,hr,HL⟩:=key true
   simp only [Bool.toNat_true,Int.natCast_one] at hr
   generalize Z true=z at*
  case' false=>
   obtain ⟨r,hr,HL⟩:=key false
   simp only [Bool.toNat_false,Int.natCast_zero,Int.add_zero] at hr
   generalize Z false=z at*
  all_goals
   have HLL:=hid HL
   clear key HL hZ
   cases dg
   case' true=>
    cases mo
    case' false=>cases od
  all_goals first
   |(exfalso;simp at hup;done)
   |skip
  all_goals clear hup
  all_goals
   go_wp2_with (go_at_call 91;go_loud ((with_reducible refine (HLL.out _).mono ?_);rintro e w4 ⟨rfl,rfl⟩))
  all_goals
   rw [jumpFwd_ret]
   refine ret_mark (.inl rfl) (by first|exact hKD2.out|exact (heap_set_other (by omega)).trans hKD2.out) fun w' hT=> ?_
   refine ⟨_,by simp only [results,Tryz.results186];go_simp;try rfl,?_⟩
   rw [HZ.out]
   exact ⟨rfl,(Stab.below (Nat.le_refl _) (Nat.le_refl _)).turn (by first|exact hbel2.out|exact hbel2.out.setCell (by dsimp only;omega) _) hT (by omega)⟩
def loW (n:Int):Int:=n % 18446744073709551616
def hiW (n:Int):Int:=(n/18446744073709551616+9223372036854775808) % 18446744073709551616-9223372036854775808
theorem loW_is (n:Int):0≤loW n∧loW n≤18446744073709551615:=by unfold loW;omega
theorem hiW_is (n:Int): -9223372036854775808≤hiW n∧hiW n≤9223372036854775807:=by unfold hiW;omega
theorem wv_words {a b:Int} (ha: -9223372036854775808≤a∧a≤9223372036854775807) (hb:0≤b∧b≤18446744073709551615):Value.agg #[.int .i64 a,.int .u64 b]=(Value.agg #[.int .i64 (hiW (a*18446744073709551616+b)),.int .u64 (loW (a*18446744073709551616+b))]):=by
 have h1:hiW (a*18446744073709551616+b)=a:=by unfold hiW;omega
 have h2:loW (a*18446744073709551616+b)=b:=by unfold loW;omega
 rw [h1,h2]
theorem wv_eq {n m:Int} (h:(n-m) % 340282366920938463463374607431768211456=0):(Value.agg #[.int .i64 (hiW (n)),.int .u64 (loW (n))])=(Value.agg #[.int .i64 (hiW (m)),.int .u64 (loW (m))]):=by
 have h1:hiW n=hiW m:=by unfold hiW;omega
 have h2:loW n=loW m:=by unfold loW;omega
 rw [h1,h2]
theorem wrap_pos (n:Int):0≤IntKind.u64.wrap n:=by rw [IntKind.wrap_u64];omega
theorem wrap_lt (n:Int):IntKind.u64.wrap n≤18446744073709551615:=by rw [IntKind.wrap_u64];omega
theorem ret_wide {a b n:Int} (h1:a=hiW n) (h2:b=loW n):Ending.returned (.agg #[.int .i64 a,.int .u64 b])= .returned ((Value.agg #[.int .i64 (hiW (n)),.int .u64 (loW (n))])):=by rw [h1,h2]
theorem of_any (n:Int) (hn: -9223372036854775808≤n∧n≤9223372036854775807) (w:World):
  Calls Tryz.prog 100 #[.int .i64 n] w fun e w'=>e= .returned ((Value.agg #[.int .i64 (hiW (n)),.int .u64 (loW (n))]))∧Below w.heap.size w w':=by
 go_enter Tryz.func100,Tryz.ntmps100
 go_wp2
 ((show bodyPost _ _ _ _ _ _);refine bodyPost_ret (by simp only [results,Tryz.results100];go_simp;try rfl) rfl ?_)
 exact ⟨ret_wide (by unfold hiW;omega) (by rw [IntKind.wrap_u64];rfl),Gr⟩
theorem words (n:Int):(hiW n*18446744073709551616+loW n-n) % 340282366920938463463374607431768211456=0:=by unfold hiW loW;omega
def bor (x y:Int):Int:=if x<y then 1 else 0
theorem bor_is (x y:Int):0≤bor x y∧bor x y≤1:=by unfold bor;split<;>decide
def subEntry:Array Value→Sem Value:=fun args=>do
 let (x, y, b) ← Extern.MathBitsCarry.three "Sub64" args
 pure (Extern.MathBitsCarry.pair ((x+Extern.MathBitsCarry.m64-y-b) % Extern.MathBitsCarry.m64) (if x<y+b then 1 else 0))
theorem run_subEntry (x y b:Nat) (hb:b≤1) (w:World):
  (subEntry #[.int .u64 x,.int .u64 y,.int .u64 b]).run Tryz.prog w=
   .ok (.tuple #[.int .u64 (((x+18446744073709551616-y-b) % 18446744073709551616:Nat):Int),.int .u64 ((if x<y+b then 1 else 0:Nat):Int)]) w:=by
 have:b=0∨b=1:=by omega
 rcases this with rfl|rfl<;>rfl
theorem sub64 (x y b:Int) (hx:0≤x) (hy:0≤y) (hy':y≤18446744073709551615) (hb0:0≤b) (hb:b≤1) (w:World):(callFunc 228 #[.int .u64 x,.int .u64 y,.int .u64 b]).run Tryz.prog w=
  .ok (.value (.tuple #[.int .u64 ((x-y-b) % 18446744073709551616),.int .u64 (bor x (y+b))])) w:=by
 obtain ⟨x,rfl⟩:=Int.eq_ofNat_of_zero_le hx
 obtain ⟨y,rfl⟩:=Int.eq_ofNat_of_zero_le hy
 obtain ⟨b,rfl⟩:=Int.eq_ofNat_of_zero_le hb0
 rw [run_callFunc_extern Tryz.func228 (by kernel_rfl) (by kernel_rfl) (by kernel_rfl) (e:=subEntry) (by kernel_rfl),run_subEntry x y b (by omega)]
 have e1:(((x+18446744073709551616-y-b) % 18446744073709551616:Nat):Int)=((x:Int)-y-b) % 18446744073709551616:=by omega
 have e2:((if x<y+b then 1 else 0:Nat):Int)=bor x (y+b):=by unfold bor;split<;>split<;>omega
 rw [e1,e2]
 rfl
theorem sub64_0 (y:Int) (hy:0≤y) (hy':y≤18446744073709551615) (w:World):(callFunc 228 #[.int .u64 0,.int .u64 y,.int .u64 0]).run Tryz.prog w=
  .ok (.value (.tuple #[.int .u64 ((-y) % 18446744073709551616),.int .u64 (bor 0 y)])) w:=by
 simpa using sub64 0 y 0 (Int.le_refl 0) hy hy' (Int.le_refl 0) (by decide) w
theorem sub64_1 (y b:Int) (hy:0≤y) (hy':y≤18446744073709551615) (hb0:0≤b) (hb:b≤1) (w:World):(callFunc 228 #[.int .u64 0,.int .u64 y,.int .u64 b]).run Tryz.prog w=
  .ok (.value (.tuple #[.int .u64 ((-y-b) % 18446744073709551616),.int .u64 (bor 0 (y+b))])) w:=by
 simpa using sub64 0 y b (Int.le_refl 0) hy hy' hb0 hb w
theorem neg_words (a b:Int) (ha: -9223372036854775808≤a∧a≤9223372036854775807) (hb:0≤b∧b≤18446744073709551615) (w:World):
  Calls Tryz.prog 187 #[.agg #[.int .i64 a,.int .u64 b]] w fun e w'=>e= .returned ((Value.agg #[.int .i64 (hiW (-(a*18446744073709551616+b))),.int .u64 (loW (-(a*18446744073709551616+b)))]))∧Below w.heap.size w w':=by
 go_enter Tryz.func187,Tryz.ntmps187
 go_wp2_with (first|simp only [sub64_0 b hb.1 hb.2]|simp only [sub64_1 (IntKind.u64.wrap a) (bor 0 b) (wrap_pos a) (wrap_lt a) (bor_is _ _).1 (bor_is _ _).2])
 ((show bodyPost _ _ _ _ _ _);refine bodyPost_ret (by simp only [results,Tryz.results187];go_simp;try rfl) rfl ?_)
 exact ⟨ret_wide (by simp only [IntKind.wrap_u64,IntKind.wrap_i64,wrap64];unfold hiW bor;split<;>omega) (by unfold loW;omega),Gr⟩
theorem neg_any (n:Int) (w:World):Calls Tryz.prog 187 #[(Value.agg #[.int .i64 (hiW (n)),.int .u64 (loW (n))])] w fun e w'=>e= .returned ((Value.agg #[.int .i64 (hiW (-n)),.int .u64 (loW (-n))]))∧Below w.heap.size w w':=by
 have h:=neg_words (hiW n) (loW n) (hiW_is n) (loW_is n) w
 rw [wv_eq (n:= -(hiW n*18446744073709551616+loW n)) (m:= -n) (by have:=words n;omega)] at h
 exact h
end Go.Proofs.YtejleplhmkmegaaGreatDoor
namespace Go.RowKit
structure Ext where
 more:Array Obj
 drawn:Nat
instance:Nonempty Ext:=⟨⟨#[],0⟩⟩
def World.plus (w:World) (x:Ext):World:={ w with heap:=w.heap++x.more,drawn:=x.drawn}
theorem World.plus_below (w:World) (x:Ext):Below w.heap.size w (World.plus w x):=
 ⟨rfl,rfl,rfl,by simp [World.plus],fun k hk=>by simp [World.plus,Array.getElem?_append_left hk]⟩
theorem World.plus_of_below {w w':World} (h:Below w.heap.size w w'):∃x,w'=World.plus w x:=by
 refine ⟨⟨w'.heap.extract w.heap.size w'.heap.size,w'.drawn⟩,?_⟩
 obtain ⟨h1,h2,h3,h4,h5⟩:=h
 have e:w.heap++w'.heap.extract w.heap.size w'.heap.size=w'.heap:=by
  apply Array.ext_getElem?
  intro i
  by_cases hi:i<w.heap.size
  ·rw [Array.getElem?_append_left hi,h5 i hi]
  ·rw [Array.getElem?_append_right (by omega),Array.getElem?_extract]
   by_cases hj:i<w'.heap.size
   ·rw [if_pos (by omega),show w.heap.size+(i-w.heap.size)=i from by omega]
   ·rw [if_neg (by omega)];simp;omega
 cases w'
 simp only [World.plus] at*
 simp [h1,h2,h3,e]
theorem World.plus_cell {w:World} {a:Addr} {v:Value} (h:w.cell? a=some v) (x:Ext):(World.plus w x).cell? a=some v:=
 ((World.plus_below w x).cell (World.block_lt_of_cell? _ _ h)).trans h
theorem World.plus_drew (w:World):∃x,{ w with drawn:=w.drawn+1}=World.plus w x:=World.plus_of_below ⟨rfl,rfl,rfl,Nat.le_refl _,fun _ _=>rfl⟩
end Go.RowKit
namespace Go
open Go.RowKit
theorem Calls.plus_of {P:Program} {f:FuncId} {args:Array Value} {w:World} {x:Ext} {v:Value}
  (h:Calls P f args (World.plus w x) fun e w'=>e= .returned v∧Below (World.plus w x).heap.size (World.plus w x) w'):Calls P f args (World.plus w x) fun e w''=>e= .returned v∧∃y,w''=World.plus w y:=
 h.mono fun _ _ ⟨he,hb⟩=>⟨he,World.plus_of_below ((World.plus_below w x).step hb)⟩
theorem Calls.plus_of_same {P:Program} {f:FuncId} {args:Array Value} {w:World} {x:Ext} {v:Value}
  (h:Calls P f args (World.plus w x) fun e w'=>e= .returned v∧World.plus w x=w'):Calls P f args (World.plus w x) fun e w''=>e= .returned v∧∃y,w''=World.plus w y:=
 h.mono fun _ _ ⟨he,hb⟩=>⟨he,x,hb.symm⟩
theorem wp_region_plus {P:Program} {id:Nat} {Q:Exit→Act→World→Prop} {a:Act} {w:World} {l:List Oper} (hm:P.follows .mixedOrders=true) (hB:Region.lexB .any l.toArray=true)
  (h:wpQuiet P l.toArray (fun w'=>∃x,w'=World.plus w x) (fun a'=>∀w',(∃x,w'=World.plus w x)→Q .normal a' w') l a):(Code.region id l.toArray true).wp P Q a w:=
 wp_region_quiet (C:=fun w'=>∃x,w'=World.plus w x) hm hB (World.plus_drew w) (by simpa using h)
end Go
namespace Go
open Go.RowKit
section
variable {P:Program} {ops:Array Oper} {md:Region.Mode} {C:World→Prop}
def wpHeadQ (P:Program) (md:Region.Mode) (ops:Array Oper) (C:World→Prop) (n:Nat) (L:Array Bool→Act→Prop):Nat→Array Bool→Act→Prop
 |0,listed,a=>L listed a
 |f+1,listed,a=>Region.ready md ops listed≠[]∧∀i∈Region.ready md ops listed,i<n∧qOp P ops C i (wpHeadQ P md ops C n L f (listed.setIfInBounds i true)) a
theorem wpAny_of_headQ {n g:Nat} {L:Array Bool→Act→Prop} {Q':Exit→Act→World→Prop} (hL:∀listed a w,C w→L listed a→wpAny P md ops Q' g listed a w):
  ∀(f:Nat) (listed:Array Bool) (a:Act) (w:World),C w→wpHeadQ P md ops C n L f listed a→wpAny P md ops Q' (f+g) listed a w
 |0,listed,a,w,hw,h=>by rw [Nat.zero_add];exact hL _ _ _ hw h
 |f+1,listed,a,w,hw,h=>by
  rw [show f+1+g=(f+g)+1 by omega]
  exact ⟨fun h0=>absurd h0 h.1,fun i hi=>wpOp_of_qOp hw (fun a' w' hw' h'=>wpAny_of_headQ hL f _ a' w' hw' h') (h.2 i hi).2⟩
theorem wpHeadQ_first {n i:Nat} {oi:Oper} {v:Value} {L:Array Bool→Act→Prop} (hi:ops[i]? =some oi) (hsel:∀(j:Nat) (o:Oper) cs b,ops[j]? =some o→o.op≠ .select cs b)
  (hs:Region.sinkB md ops n=true) (hc:Region.chainB md ops n=true) (hn:n<ops.size) (hin:i<n) (hdone:∀listed a,L listed a→∀j∈Region.ready md ops listed,n≤j):
  ∀(f:Nat) (listed:Array Bool) (a:Act),HeadInv md ops n listed→
   (∀j oj,ops[j]? =some oj→j≠i→listed.getD j true=false→(∀e∈oj.after,Region.binds md e=true→e.on≠i)→oi.apart ops oj=true)→
   i∈Region.ready md ops listed→YieldsIn P ops C oi v a→
   wpHeadQ P md ops C n L f (listed.setIfInBounds i true) (a.put oi.dst v)→wpHeadQ P md ops C n L (f+1) listed a:=by
 intro f
 induction f with
 |zero=>
  intro listed a inv _ hr hy H
  have hun:=(mem_ready.1 hr).1
  refine ⟨fun h=>(by rw [h] at hr;cases hr),fun j hj=> ?_⟩
  have hjn:j<n:=Nat.lt_of_not_le fun h=>tail_waits hs hc hn inv _ i rfl hin hun j h hj
  refine ⟨hjn,?_⟩
  by_cases hji:j=i
  ·subst hji;exact hy.qOp hi H
  ·exact absurd (hdone _ _ H j (ready_mono hj hji)) (by omega)
 |succ f ih=>
  intro listed a inv hfree hr hy H
  have hun:=(mem_ready.1 hr).1
  refine ⟨fun h=>(by rw [h] at hr;cases hr),fun j hj=> ?_⟩
  have hjn:j<n:=Nat.lt_of_not_le fun h=>tail_waits hs hc hn inv _ i rfl hin hun j h hj
  refine ⟨hjn,?_⟩
  by_cases hji:j=i
  ·subst hji;exact hy.qOp hi H
  ·have h1:=(H.2 j (ready_mono hj hji)).2
   obtain ⟨hjun,oj,hoj,hall⟩:=mem_ready.1 hj
   have hnot:∀e∈oj.after,Region.binds md e=true→e.on≠i:=fun e he hb heq=>by
    have h1:=hall e he hb
    rw [heq,getD_both hun] at h1
    cases h1
   have h2:=qOp_put hoj (hfree j oj hoj hji hjun hnot) (fun cs b=>hsel i oi cs b hi) (fun cs b=>hsel j oj cs b hoj) hy h1
   have hfree':∀k ok,ops[k]? =some ok→k≠i→(listed.setIfInBounds j true).getD k true=false→
     (∀e∈ok.after,Region.binds md e=true→e.on≠i)→oi.apart ops ok=true:=fun k ok hk hki hun hno=>by
    refine hfree k ok hk hki ?_ hno
    by_cases hjk:j=k
    ·subst hjk;exact hjun
    ·rw [getD_set_ne true hjk] at hun;exact hun
   refine qOp_mono (fun a' h3=>ih (listed.setIfInBounds j true) a' (inv.set hj hjn) hfree' (ready_mono hr (Ne.symm hji)) h3.1 ?_) h2
   rw [Array.setIfInBounds_comm _ _ hji]
   exact h3.2
theorem wpHeadQ_lex {n g:Nat} {Lq:Act→Prop} (hsel:Region.noSelect ops=true) (hs:Region.sinkB md ops n=true) (hc:Region.chainB md ops n=true) (hn:n<ops.size):
  ∀(l:List Oper) (k:Nat) (listed:Array Bool) (a:Act),(∀j,j<l.length→l[j]? =ops[k+j]?)→k+l.length=n→HeadInv md ops n listed→
  Region.lexHead md ops g l.length k listed=true→wpQuiet P ops C Lq l a→wpHeadQ P md ops C n (fun listed' a'=>Region.seqB md ops g n listed'=true∧Lq a') l.length listed a
 |[],k,listed,a,_,hk,_,hB,h=>by
  have:k=n:=by simpa using hk
  subst this
  exact ⟨by simpa [Region.lexHead] using hB,h⟩
 |o::l,k,listed,a,hl,hk,inv,hB,h=>by
  have h0:ops[k]? =some o:=by simpa using (hl 0 (by simp)).symm
  simp only [List.length_cons,Region.lexHead,Bool.and_eq_true] at hB
  obtain ⟨⟨hr,hf⟩,hB'⟩:=hB
  have hkn:k<n:=by simp only [List.length_cons] at hk;omega
  have hr':k∈Region.ready md ops listed:=by simpa using hr
  have hst:qOp P ops C k (wpQuiet P ops C Lq l) a:=by unfold qOp;simp only [h0];exact h
  obtain ⟨v,hy,hK⟩:=yieldsIn_of_qOp h0 hst
  exact wpHeadQ_first h0 (Region.noSelect_spec hsel) hs hc hn hkn (fun listed' a' hL=>seqB_ready hL.1) l.length listed a inv (Region.free_spec h0 hf) hr' hy
   (wpHeadQ_lex hsel hs hc hn l (k+1) _ _ (fun j hj=>by have:=hl (j+1) (by simp;omega);simpa [Nat.add_assoc,Nat.add_comm 1 j] using this) (by simp only [List.length_cons] at hk;omega) (inv.set hr' hkn) hB' hK)
theorem wp_region_quiet_tail {id:Nat} {Q:Exit→Act→World→Prop} {a:Act} {w:World} {l:List Oper} (n:Nat) (hm:P.follows .mixedOrders=true) (hB:Region.lexTailB .any l.toArray n=true)
  (hC:C { w with drawn:=w.drawn+1}) (h:wpQuiet P l.toArray C (fun a'=>∀w',C w'→wpList P l.toArray Q (l.drop n) a' w') (l.take n) a):(Code.region id l.toArray true).wp P Q a w:=by
 simp only [Region.lexTailB,Bool.and_eq_true,decide_eq_true_eq] at hB
 obtain ⟨⟨⟨⟨hsel,hn⟩,hs⟩,hc⟩,hlex⟩:=hB
 have hn':n<l.length:=by simpa using hn
 have htl:(l.take n).length=n:=by simp;omega
 have hdl:(l.drop n).length=l.toArray.size-n:=by simp
 have inv0:HeadInv .any l.toArray n (Array.replicate l.toArray.size false):=
  ⟨by simp,fun j oj _ hl=>(by rw [getD_replicate_false] at hl;cases hl),fun t _ ht=>getD_in (by simpa using ht) (getD_replicate_false _ _)⟩
 have H:=wpHeadQ_lex (md:= .any) (C:=C) (g:=l.toArray.size-n) hsel hs hc hn (l.take n) 0 _ a (fun j hj=>by
  have hj':j<n:=by rw [htl] at hj;exact hj
  simp [hj']) (by simpa using htl) inv0 (by rw [htl];exact hlex) h
 refine wp_region_any hm ?_
 have:=wpAny_of_headQ (Q':=Q) (g:=l.toArray.size-n) (fun listed a' w' hw' hL=>by
  have:=wpAny_of_seq (md:= .any) (Q':=Q) (l.drop n) n listed a' w' (fun j=>by simp [List.getElem?_drop]) (by rw [hdl];exact hL.1) (hL.2 w' hw')
  rwa [hdl] at this) _ _ _ _ hC H
 rw [htl,show n+(l.toArray.size-n)=l.toArray.size by omega] at this
 exact this
theorem wp_region_plus_tail {id:Nat} {Q:Exit→Act→World→Prop} {a:Act} {w:World} {l:List Oper} (n:Nat) (hm:P.follows .mixedOrders=true) (hB:Region.lexTailB .any l.toArray n=true)
  (h:wpQuiet P l.toArray (fun w'=>∃x,w'=World.plus w x) (fun a'=>∀w',(∃x,w'=World.plus w x)→wpList P l.toArray Q (l.drop n) a' w') (l.take n) a):(Code.region id l.toArray true).wp P Q a w:=
 wp_region_quiet_tail (C:=fun w'=>∃x,w'=World.plus w x) n hm hB (World.plus_drew w) h
end
end Go
namespace Go.Proofs.YtejleplhmkmegaaGreatDoor
set_option linter.unusedVariables false
set_option linter.unusedSimpArgs false
open Go.ChangeShapes Go.WideShapes Go.ChangeAt Go.RowKit
theorem refOf_any (n:Int) (hn: -9223372036854775808≤n∧n≤9223372036854775807) (w:World):
  Calls Tryz.prog 139 #[.int .i64 n] w fun e w'=>e= .returned ((Value.agg #[.int .i64 (hiW (n)),.int .u64 (loW (n))]))∧Below w.heap.size w w':=by
 by_cases h:n<0
 ·go_enter Tryz.func139,Tryz.ntmps139
  go_wp2
  ((show bodyPost _ _ _ _ _ _);refine bodyPost_ret (by simp only [results,Tryz.results139];go_simp;try rfl) rfl ?_)
  exact ⟨ret_wide (by unfold hiW;omega) (by rw [IntKind.wrap_u64];rfl),Gr⟩
 ·have h':0≤n:=by omega
  clear h
  go_enter Tryz.func139,Tryz.ntmps139
  go_wp2
  ((show bodyPost _ _ _ _ _ _);refine bodyPost_ret (by simp only [results,Tryz.results139];go_simp;try rfl) rfl ?_)
  exact ⟨ret_wide (by unfold hiW;omega) (by first|(rw [IntKind.wrap_u64];rfl)|(unfold loW;omega)),Gr⟩
theorem ret_two {a b c d:Int} {k:IntKind} (h1:a=b) (h2:c=d):Ending.returned (.tuple #[.int k a,.int k c])= .returned (.tuple #[.int k b,.int k d]):=by rw [h1,h2]
theorem half_any (x y:Int) (hx:0≤x∧x≤18446744073709551615) (hy:0≤y∧y≤18446744073709551615) (w:World):
  Calls Tryz.prog 240 #[.int .u64 x,.int .u64 y] w fun e w'=>e= .returned (.tuple #[.int .u64 ((x+y) % 18446744073709551616),.int .u64 ((x+y)/18446744073709551616)])∧w=w':=by
 go_enter Tryz.func240,Tryz.ntmps240
 go_wp2
 go_ret2
 exact ⟨ret_two (by omega) (by omega),rfl⟩
theorem refAdd_words (a b c d:Int) (ha: -9223372036854775808≤a∧a≤9223372036854775807) (hb:0≤b∧b≤18446744073709551615) (hc: -9223372036854775808≤c∧c≤9223372036854775807) (hd:0≤d∧d≤18446744073709551615) (w:World):
  Calls Tryz.prog 234 #[.agg #[.int .i64 a,.int .u64 b],.agg #[.int .i64 c,.int .u64 d]] w fun e w'=>e= .returned ((Value.agg #[.int .i64 (hiW (a*18446744073709551616+b+(c*18446744073709551616+d))),.int .u64 (loW (a*18446744073709551616+b+(c*18446744073709551616+d)))]))∧Below w.heap.size w w':=by
 have wa:=wrap_pos a;have wa':=wrap_lt a;have wc:=wrap_pos c;have wc':=wrap_lt c
 go_enter Tryz.func234,Tryz.ntmps234
 go_wp2_with (go_at_call 240;refine (half_any _ _ (by omega) (by omega) _).mono ?_;rintro e w1 ⟨rfl,rfl⟩)
 ((show bodyPost _ _ _ _ _ _);refine bodyPost_ret (by simp only [results,Tryz.results234];go_simp;try rfl) rfl ?_)
 exact ⟨ret_wide (by simp only [IntKind.wrap_u64,IntKind.wrap_i64,wrap64];unfold hiW;omega) (by unfold loW;omega),Gr⟩
theorem refAdd_any (n m:Int) (w:World):Calls Tryz.prog 234 #[(Value.agg #[.int .i64 (hiW (n)),.int .u64 (loW (n))]),(Value.agg #[.int .i64 (hiW (m)),.int .u64 (loW (m))])] w fun e w'=>e= .returned ((Value.agg #[.int .i64 (hiW (n+m)),.int .u64 (loW (n+m))]))∧Below w.heap.size w w':=by
 have h:=refAdd_words (hiW n) (loW n) (hiW m) (loW m) (hiW_is n) (loW_is n) (hiW_is m) (loW_is m) w
 rw [wv_eq (n:=hiW n*18446744073709551616+loW n+(hiW m*18446744073709551616+loW m)) (m:=n+m) (by have:=words n;have:=words m;omega)] at h
 exact h
theorem refNeg_words (a b:Int) (ha: -9223372036854775808≤a∧a≤9223372036854775807) (hb:0≤b∧b≤18446744073709551615) (w:World):
  Calls Tryz.prog 195 #[.agg #[.int .i64 a,.int .u64 b]] w fun e w'=>e= .returned ((Value.agg #[.int .i64 (hiW (-(a*18446744073709551616+b))),.int .u64 (loW (-(a*18446744073709551616+b)))]))∧Below w.heap.size w w':=by
 have e1:(Value.agg #[.int .i64 (-1-a),.int .u64 (18446744073709551615-b)])=(Value.agg #[.int .i64 (hiW ((-1-a)*18446744073709551616+(18446744073709551615-b))),.int .u64 (loW ((-1-a)*18446744073709551616+(18446744073709551615-b)))]):=wv_words (by omega) (by omega)
 have e2:(Value.agg #[.int .i64 (hiW ((-1-a)*18446744073709551616+(18446744073709551615-b)+1)),.int .u64 (loW ((-1-a)*18446744073709551616+(18446744073709551615-b)+1))])=(Value.agg #[.int .i64 (hiW (-(a*18446744073709551616+b))),.int .u64 (loW (-(a*18446744073709551616+b)))]):=wv_eq (by omega)
 rw [←e2]
 clear e2
 go_enter Tryz.func195,Tryz.ntmps195
 go_wp2
 have s0:((w.alloc (.cells #[.int .i64 a,.int .u64 b] 126)).alloc (.cells #[.int .i64 0,.int .u64 0] 126)).cell? ⟨w.heap.size,0,none⟩=some (.int .i64 a):=by go_simp
 have s1:((w.alloc (.cells #[.int .i64 a,.int .u64 b] 126)).alloc (.cells #[.int .i64 0,.int .u64 0] 126)).cell? ⟨w.heap.size,1,none⟩=some (.int .u64 b):=by go_simp
 have s2:((w.alloc (.cells #[.int .i64 a,.int .u64 b] 126)).alloc (.cells #[.int .i64 0,.int .u64 0] 126)).cell? ⟨w.heap.size+1,0,none⟩=some (.int .i64 0):=by go_simp
 have s3:((w.alloc (.cells #[.int .i64 a,.int .u64 b] 126)).alloc (.cells #[.int .i64 0,.int .u64 0] 126)).cell? ⟨w.heap.size+1,1,none⟩=some (.int .u64 0):=by go_simp
 have p0:=World.plus_cell s0;have p1:=World.plus_cell s1;have p2:=World.plus_cell s2;have p3:=World.plus_cell s3
 clear s0 s1 s2 s3
 refine wp_region_plus_tail (8) (by kernel_rfl) (by kernel_rfl) ?_
 simp only [List.take_succ_cons,List.take_zero,List.drop_succ_cons,List.drop_zero]
 repeat (first|go_big_quiet_skip|(go_big_quiet_want;go_big_quiet_op;first|go_big_quiet_on|go_big_quiet_call (((go_at_call 139;exact Calls.plus_of (refOf_any 1 (by omega) _))))))
 refine wpQuiet_nil ?_
 rintro _ ⟨xq,rfl⟩
 have kB:=World.plus_below ((w.alloc (.cells #[.int .i64 a,.int .u64 b] 126)).alloc (.cells #[.int .i64 0,.int .u64 0] 126)) xq
 obtain ⟨hcq,hfq,hkq,hzq⟩:=bcell3 kB
 simp only [World.size_alloc] at hzq
 go_wp2_with (go_at_call 234;(try rw [e1]);(with_reducible refine (refAdd_any _ _ _).mono ?_);rintro e w2 ⟨rfl,hb2⟩;obtain ⟨hc2,hf2,hk2,hz2⟩:=bcell3 hb2;(try simp only [World.size_alloc,World.size_drew] at hz2);have:w.heap.size<w2.heap.size:=(by omega);have:w.heap.size+1<w2.heap.size:=(by omega);have r2:=cell_step (p2 xq) hb2;have r3:=cell_step (p3 xq) hb2)
 ((show bodyPost _ _ _ _ _ _);refine bodyPost_ret (by simp only [results,Tryz.results195];go_simp;try rfl) rfl ?_)
 exact ⟨rfl,Gr⟩
end Go.Proofs.YtejleplhmkmegaaGreatDoor
namespace Go.RowKit
theorem two_is {w:World} {b:Nat} {x y:Value} {t:TypeId} (h:w.heap[b]? =some (.cells #[x,y] t (0,0))):w.cell? ⟨b,0,none⟩=some x∧w.cell? ⟨b,1,none⟩=some y∧w.frozen? ⟨b,0,none⟩=false∧w.frozen? ⟨b,1,none⟩=false∧b<w.heap.size:=by
 refine ⟨by simp [World.cell?,h],by simp [World.cell?,h],by simp [World.frozen?,h],by simp [World.frozen?,h],lt_of_block h⟩
theorem two_set0 {w:World} {b:Nat} {x y u:Value} {t:TypeId} (h:w.heap[b]? =some (.cells #[x,y] t (0,0))):(w.setCell ⟨b,0,none⟩ u).heap[b]? =some (.cells #[u,y] t (0,0)):=by
 have hlt:=lt_of_block h
 have h':w.heap[b]= .cells #[x,y] t (0,0):=by simpa [Array.getElem?_eq_getElem hlt] using h
 show (w.heap.modify b _)[b]? =_
 rw [Array.getElem?_eq_getElem (by simpa using hlt),Array.getElem_modify_self,h']
 rfl
theorem two_set1 {w:World} {b:Nat} {x y u:Value} {t:TypeId} (h:w.heap[b]? =some (.cells #[x,y] t (0,0))):(w.setCell ⟨b,1,none⟩ u).heap[b]? =some (.cells #[x,u] t (0,0)):=by
 have hlt:=lt_of_block h
 have h':w.heap[b]= .cells #[x,y] t (0,0):=by simpa [Array.getElem?_eq_getElem hlt] using h
 show (w.heap.modify b _)[b]? =_
 rw [Array.getElem?_eq_getElem (by simpa using hlt),Array.getElem_modify_self,h']
 rfl
theorem two_set {w:World} {b:Nat} {x y u v:Value} {t:TypeId} (h:w.heap[b]? =some (.cells #[x,y] t (0,0))):((w.setCell ⟨b,0,none⟩ u).setCell ⟨b,1,none⟩ v).heap[b]? =some (.cells #[u,v] t (0,0)):=two_set1 (two_set0 h)
end Go.RowKit
namespace Go.Proofs.YtejleplhmkmegaaGreatDoor
set_option linter.unusedVariables false
set_option linter.unusedSimpArgs false
open Go.ChangeShapes Go.WideShapes Go.ChangeAt Go.RowKit
def fitsW (n:Int):Bool:=decide (hiW n=wrap64 (loW n)/9223372036854775808)
def toV (n:Int):Int:=if fitsW n=true then wrap64 (loW n) else 0
def toE (n:Int):Int:=if fitsW n=true then 0 else 10
theorem hiW_low {b:Int} (hb:0≤b∧b≤18446744073709551615):hiW (wrap64 b)=wrap64 b/9223372036854775808∧loW (wrap64 b)=b:=by unfold hiW loW wrap64;omega
theorem to_core (a b T p:Int) (hw:IntKind.i64.wrap b=T) (hb:0≤b∧b≤18446744073709551615) (hr: -9223372036854775808≤T∧T≤9223372036854775807) (h1:hiW T=p) (h2:loW T=b) (w:World):
  Calls Tryz.prog 124 #[.agg #[.int .i64 a,.int .u64 b]] w fun e w'=>e= .returned (if a=p then .tuple #[.int .i64 T,.int .i64 0] else .tuple #[.int .i64 0,.int .i64 10])∧Below w.heap.size w w':=by
 have hO:∀w,Calls Tryz.prog 100 #[.int .i64 T] w fun e w'=>e= .returned (.agg #[.int .i64 p,.int .u64 b])∧Below w.heap.size w w':=fun w=>by
  have h:=of_any T hr w
  rw [h1,h2] at h
  exact h
 have HO:=hid hO;clear hO h1 h2
 have s0:(w.alloc (.cells #[.int .i64 a,.int .u64 b] 126)).cell? ⟨w.heap.size,0,none⟩=some (.int .i64 a):=by go_simp
 have s1:(w.alloc (.cells #[.int .i64 a,.int .u64 b] 126)).cell? ⟨w.heap.size,1,none⟩=some (.int .u64 b):=by go_simp
 have p0:=World.plus_cell s0;have p1:=World.plus_cell s1
 clear s0 s1
 by_cases hp:a=p
 ·subst hp
  rw [if_pos rfl]
  go_enter Tryz.func124,Tryz.ntmps124
  go_wp2
  refine wp_scope_fwd ?_
  go_wp2
  refine wp_region_plus (by kernel_rfl) (by kernel_rfl) ?_
  repeat (first|go_big_quiet_skip|(go_big_quiet_want;go_big_quiet_op;first|go_big_quiet_on|go_big_quiet_call (((go_at_call 100;exact Calls.plus_of (HO.out _))))))
  refine wpQuiet_nil ?_
  rintro _ ⟨xq,rfl⟩
  have kB:=World.plus_below (w.alloc (.cells #[.int .i64 a,.int .u64 b] 126)) xq
  go_wp2
  (first|rw [jumpFwd_ret]|rw [Exit.noGoto_ret]|skip);((show bodyPost _ _ _ _ _ _);refine bodyPost_ret (by simp only [results,Tryz.results124];go_simp;try rfl) rfl ?_)
  exact ⟨rfl,Gr⟩
 ·rw [if_neg hp]
  have hq:(p==a)=false:=by simpa using fun h=>hp h.symm
  have hq2:(p !=a)=true:=by simpa using fun h=>hp h.symm
  have hq3:decide (p=a)=false:=by simpa using fun h=>hp h.symm
  clear hp
  go_enter Tryz.func124,Tryz.ntmps124
  go_wp2
  refine wp_scope_fwd ?_
  go_wp2
  refine wp_region_plus (by kernel_rfl) (by kernel_rfl) ?_
  repeat (first|go_big_quiet_skip|(go_big_quiet_want;go_big_quiet_op;first|go_big_quiet_on|go_big_quiet_call (((go_at_call 100;exact Calls.plus_of (HO.out _))))))
  refine wpQuiet_nil ?_
  rintro _ ⟨xq,rfl⟩
  have kB:=World.plus_below (w.alloc (.cells #[.int .i64 a,.int .u64 b] 126)) xq
  go_wp2
  (refine wp_goto ?_;go_step;refine jumpFwd_goto rfl ?_;go_wp2)
  (first|rw [jumpFwd_ret]|rw [Exit.noGoto_ret]|skip);((show bodyPost _ _ _ _ _ _);refine bodyPost_ret (by simp only [results,Tryz.results124];go_simp;try rfl) rfl ?_)
  exact ⟨rfl,Gr⟩
theorem to_any (n:Int) (w:World):Calls Tryz.prog 124 #[(Value.agg #[.int .i64 (hiW (n)),.int .u64 (loW (n))])] w fun e w'=>e= .returned (.tuple #[.int .i64 (toV n),.int .i64 (toE n)])∧Below w.heap.size w w':=by
 have hb:=loW_is n
 have hr: -9223372036854775808≤wrap64 (loW n)∧wrap64 (loW n)≤9223372036854775807:=by unfold wrap64;omega
 obtain ⟨e1,e2⟩:=hiW_low hb
 have h:=to_core (hiW n) (loW n) (wrap64 (loW n)) (wrap64 (loW n)/9223372036854775808) (by rw [IntKind.wrap_i64,wrap64]) hb hr e1 e2 w
 refine h.mono ?_
 rintro e w' ⟨rfl,hb⟩
 refine ⟨?_,hb⟩
 by_cases hf:hiW n=wrap64 (loW n)/9223372036854775808
 ·simp [toV,toE,fitsW,hf]
 ·simp [toV,toE,fitsW,hf]
theorem refTo_core (a b T p:Int) (hw:IntKind.i64.wrap b=T) (hb:0≤b∧b≤18446744073709551615) (hr: -9223372036854775808≤T∧T≤9223372036854775807) (h1:hiW T=p) (h2:loW T=b) (w:World):
  Calls Tryz.prog 74 #[.agg #[.int .i64 a,.int .u64 b]] w fun e w'=>e= .returned (if a=p then .tuple #[.int .i64 T,.int .i64 0] else .tuple #[.int .i64 0,.int .i64 10])∧Below w.heap.size w w':=by
 have hO:∀w,Calls Tryz.prog 139 #[.int .i64 T] w fun e w'=>e= .returned (.agg #[.int .i64 p,.int .u64 b])∧Below w.heap.size w w':=fun w=>by
  have h:=refOf_any T hr w
  rw [h1,h2] at h
  exact h
 have HO:=hid hO;clear hO h1 h2
 have s0:(w.alloc (.cells #[.int .i64 a,.int .u64 b] 126)).cell? ⟨w.heap.size,0,none⟩=some (.int .i64 a):=by go_simp
 have s1:(w.alloc (.cells #[.int .i64 a,.int .u64 b] 126)).cell? ⟨w.heap.size,1,none⟩=some (.int .u64 b):=by go_simp
 have p0:=World.plus_cell s0;have p1:=World.plus_cell s1
 clear s0 s1
 by_cases hp:a=p
 ·subst hp
  rw [if_pos rfl]
  go_enter Tryz.func74,Tryz.ntmps74
  go_wp2
  refine wp_region_plus (by kernel_rfl) (by kernel_rfl) ?_
  repeat (first|go_big_quiet_skip|(go_big_quiet_want;go_big_quiet_op;first|go_big_quiet_on|go_big_quiet_call (((go_at_call 139;exact Calls.plus_of (HO.out _))))))
  refine wpQuiet_nil ?_
  rintro _ ⟨xq,rfl⟩
  have kB:=World.plus_below (w.alloc (.cells #[.int .i64 a,.int .u64 b] 126)) xq
  go_wp2
  go_ret2
  exact ⟨rfl,Gr⟩
 ·rw [if_neg hp]
  have hq:(p==a)=false:=by simpa using fun h=>hp h.symm
  have hq2:(p !=a)=true:=by simpa using fun h=>hp h.symm
  have hq3:decide (p=a)=false:=by simpa using fun h=>hp h.symm
  clear hp
  go_enter Tryz.func74,Tryz.ntmps74
  go_wp2
  refine wp_region_plus (by kernel_rfl) (by kernel_rfl) ?_
  repeat (first|go_big_quiet_skip|(go_big_quiet_want;go_big_quiet_op;first|go_big_quiet_on|go_big_quiet_call (((go_at_call 139;exact Calls.plus_of (HO.out _))))))
  refine wpQuiet_nil ?_
  rintro _ ⟨xq,rfl⟩
  have kB:=World.plus_below (w.alloc (.cells #[.int .i64 a,.int .u64 b] 126)) xq
  go_wp2
  go_ret2
  exact ⟨rfl,Gr⟩
theorem refTo_any (n:Int) (w:World):Calls Tryz.prog 74 #[(Value.agg #[.int .i64 (hiW (n)),.int .u64 (loW (n))])] w fun e w'=>e= .returned (.tuple #[.int .i64 (toV n),.int .i64 (toE n)])∧Below w.heap.size w w':=by
 have hb:=loW_is n
 have hr: -9223372036854775808≤wrap64 (loW n)∧wrap64 (loW n)≤9223372036854775807:=by unfold wrap64;omega
 obtain ⟨e1,e2⟩:=hiW_low hb
 have h:=refTo_core (hiW n) (loW n) (wrap64 (loW n)) (wrap64 (loW n)/9223372036854775808) (by rw [IntKind.wrap_i64,wrap64]) hb hr e1 e2 w
 refine h.mono ?_
 rintro e w' ⟨rfl,hb⟩
 refine ⟨?_,hb⟩
 by_cases hf:hiW n=wrap64 (loW n)/9223372036854775808
 ·simp [toV,toE,fitsW,hf]
 ·simp [toV,toE,fitsW,hf]
def sgnI (a b:Int):Int:=if a<b then -1 else if a>b then 1 else 0
theorem sgn_lt {a b:Int} (h:a<b):sgnI a b= -1:=by simp [sgnI,h]
theorem sgn_gt {a b:Int} (h:b<a):sgnI a b=1:=by unfold sgnI;rw [if_neg (by omega),if_pos h]
theorem sgn_eq {a b:Int} (h:a=b):sgnI a b=0:=by subst h;simp [sgnI]
theorem nan_i (a:Int) (w:World):Calls Tryz.prog 101 #[.int .i64 a] w fun e w'=>e= .returned (.bool false)∧w=w':=by
 go_enter Tryz.func101,Tryz.ntmps101
 go_wp2
 go_ret
 exact ⟨ret_bool (by simp),rfl⟩
theorem nan_u (a:Int) (w:World):Calls Tryz.prog 238 #[.int .u64 a] w fun e w'=>e= .returned (.bool false)∧w=w':=by
 go_enter Tryz.func238,Tryz.ntmps238
 go_wp2
 go_ret
 exact ⟨ret_bool (by simp),rfl⟩
theorem cmp_i (a b:Int) (w:World):Calls Tryz.prog 51 #[.int .i64 a,.int .i64 b] w fun e w'=>e= .returned (.int .i64 (sgnI a b))∧w=w':=by
 rcases Int.lt_trichotomy a b with h|h|h
 ·rw [sgn_lt h]
  go_enter Tryz.func51,Tryz.ntmps51
  go_wp2_with (go_at_call 101;(with_reducible refine (nan_i _ _).mono ?_);rintro e w1 ⟨rfl,rfl⟩)
  go_ret
  exact ⟨rfl,rfl⟩
 ·rw [sgn_eq h]
  subst h
  go_enter Tryz.func51,Tryz.ntmps51
  go_wp2_with (go_at_call 101;(with_reducible refine (nan_i _ _).mono ?_);rintro e w1 ⟨rfl,rfl⟩)
  go_ret
  exact ⟨rfl,rfl⟩
 ·rw [sgn_gt h]
  go_enter Tryz.func51,Tryz.ntmps51
  go_wp2_with (go_at_call 101;(with_reducible refine (nan_i _ _).mono ?_);rintro e w1 ⟨rfl,rfl⟩)
  go_ret
  exact ⟨rfl,rfl⟩
theorem cmp_u (a b:Int) (w:World):Calls Tryz.prog 226 #[.int .u64 a,.int .u64 b] w fun e w'=>e= .returned (.int .i64 (sgnI a b))∧w=w':=by
 rcases Int.lt_trichotomy a b with h|h|h
 ·rw [sgn_lt h]
  go_enter Tryz.func226,Tryz.ntmps226
  go_wp2_with (go_at_call 238;(with_reducible refine (nan_u _ _).mono ?_);rintro e w1 ⟨rfl,rfl⟩)
  go_ret
  exact ⟨rfl,rfl⟩
 ·rw [sgn_eq h]
  subst h
  go_enter Tryz.func226,Tryz.ntmps226
  go_wp2_with (go_at_call 238;(with_reducible refine (nan_u _ _).mono ?_);rintro e w1 ⟨rfl,rfl⟩)
  go_ret
  exact ⟨rfl,rfl⟩
 ·rw [sgn_gt h]
  go_enter Tryz.func226,Tryz.ntmps226
  go_wp2_with (go_at_call 238;(with_reducible refine (nan_u _ _).mono ?_);rintro e w1 ⟨rfl,rfl⟩)
  go_ret
  exact ⟨rfl,rfl⟩
theorem or_two (p q:Int) (b cap:Nat) (w:World) (h0:w.cell? ⟨b,0,none⟩=some (.int .i64 p)) (h1:w.cell? ⟨b,1,none⟩=some (.int .i64 q)):
  Calls Tryz.prog 94 #[.slice (some ⟨b,0,none⟩) 2 cap] w fun e w'=>e= .returned (.int .i64 (if p=0 then q else p))∧w=w':=by
 by_cases hp:p=0
 ·rw [if_pos hp]
  subst hp
  by_cases hq:q=0
  ·subst hq
   go_enter Tryz.func94,Tryz.ntmps94
   go_wp2
   refine wp_loop_rounds 3 ?_
   rw [rounds_succ]
   go_wp2
   rw [rounds_succ]
   go_wp2
   rw [rounds_succ]
   go_wp2
   go_ret
   exact ⟨rfl,rfl⟩
  ·have hn:(q !=0)=true:=by simpa using hq
   have hn2:(q==0)=false:=by simpa using hq
   clear hq
   go_enter Tryz.func94,Tryz.ntmps94
   go_wp2
   refine wp_loop_rounds 3 ?_
   rw [rounds_succ]
   go_wp2
   rw [rounds_succ]
   go_wp2
   go_ret
   exact ⟨rfl,rfl⟩
 ·rw [if_neg hp]
  have hn:(p !=0)=true:=by simpa using hp
  have hn2:(p==0)=false:=by simpa using hp
  clear hp
  go_enter Tryz.func94,Tryz.ntmps94
  go_wp2
  refine wp_loop_rounds 3 ?_
  rw [rounds_succ]
  go_wp2
  go_ret
  exact ⟨rfl,rfl⟩
def cmpW (a b c d:Int):Int:=if a=c then sgnI b d else sgnI a c
theorem sgn_zero {a b:Int}:sgnI a b=0↔a=b:=by unfold sgnI;(repeat' split)<;>omega
theorem cmp_words (a b c d:Int) (w:World):
  Calls Tryz.prog 185 #[.agg #[.int .i64 a,.int .u64 b],.agg #[.int .i64 c,.int .u64 d]] w fun e w'=>e= .returned (.int .i64 (cmpW a b c d))∧Below w.heap.size w w':=by
 have hz:(if sgnI a c=0 then sgnI b d else sgnI a c)=cmpW a b c d:=by simp only [sgn_zero,cmpW]
 rw [←hz]
 clear hz
 obtain ⟨p,hp⟩:∃p,sgnI a c=p:=⟨_,rfl⟩
 obtain ⟨q,hq⟩:∃q,sgnI b d=q:=⟨_,rfl⟩
 rw [hp,hq]
 have c1:=hid (fun w=>cmp_i a c w);have c2:=hid (fun w=>cmp_u b d w)
 rw [hp] at c1;rw [hq] at c2
 clear hp hq
 go_enter Tryz.func185,Tryz.ntmps185
 go_wp2
 have s0:((w.alloc (.cells #[.int .i64 a,.int .u64 b] 126)).alloc (.cells #[.int .i64 c,.int .u64 d] 126)).cell? ⟨w.heap.size,0,none⟩=some (.int .i64 a):=by go_simp
 have s1:((w.alloc (.cells #[.int .i64 a,.int .u64 b] 126)).alloc (.cells #[.int .i64 c,.int .u64 d] 126)).cell? ⟨w.heap.size,1,none⟩=some (.int .u64 b):=by go_simp
 have s2:((w.alloc (.cells #[.int .i64 a,.int .u64 b] 126)).alloc (.cells #[.int .i64 c,.int .u64 d] 126)).cell? ⟨w.heap.size+1,0,none⟩=some (.int .i64 c):=by go_simp
 have s3:((w.alloc (.cells #[.int .i64 a,.int .u64 b] 126)).alloc (.cells #[.int .i64 c,.int .u64 d] 126)).cell? ⟨w.heap.size+1,1,none⟩=some (.int .u64 d):=by go_simp
 have p0:=World.plus_cell s0;have p1:=World.plus_cell s1;have p2:=World.plus_cell s2;have p3:=World.plus_cell s3
 clear s0 s1 s2 s3
 refine wp_region_plus_tail (10) (by kernel_rfl) (by kernel_rfl) ?_
 simp only [List.take_succ_cons,List.take_zero,List.drop_succ_cons,List.drop_zero]
 repeat (first|go_big_quiet_skip|(go_big_quiet_want;go_big_quiet_op;first|go_big_quiet_on|go_big_quiet_call (((first|(go_at_call 51;exact Calls.plus_of_same (c1.out _))|(go_at_call 226;exact Calls.plus_of_same (c2.out _)))))))
 refine wpQuiet_nil ?_
 rintro _ ⟨xq,rfl⟩
 have kB:=World.plus_below ((w.alloc (.cells #[.int .i64 a,.int .u64 b] 126)).alloc (.cells #[.int .i64 c,.int .u64 d] 126)) xq
 go_wp2_with (go_at_call 94;refine (or_two p q _ _ _ (by go_simp) (by go_simp)).mono ?_;rintro e w1 ⟨rfl,rfl⟩)
 all_goals
  go_ret
  exact ⟨rfl,Gr⟩
set_option maxRecDepth 100000
open Go.Fl Go.Shelf
attribute [local go_sem] Oper.semAt_some
def ofBad (n:Int):Bool:=decide (n<0)||decide (20000000000<n)
def ofF (a n:Int):Nat:=
 if ofBad n then 0 else if n=0 then (if a=0 then 9221120237041090561 else Ieee.double.word (decide (a<0)) (2047*2^52)) else if a=0 then 0 else Ieee.double.word (decide (a<0)) (ofR a.natAbs n.toNat)
def ofE (n:Int):Int:=if ofBad n then 90 else 0
abbrev I128 (a:Int):Prop:= -170141183460469231731687303715884105728≤a∧a<170141183460469231731687303715884105728
theorem cmp_zero {a:Int} (ha:I128 a):cmpW (hiW a) (loW a) 0 0=sgnI a 0:=by
 have h:a=hiW a*18446744073709551616+loW a:=by unfold hiW loW;omega
 have:=loW_is a
 generalize hiW a=H at*
 generalize loW a=L at*
 unfold cmpW sgnI
 (repeat' split)<;>omega
theorem neg_float {r:Nat} (h:r<2^63):Op.negFloat .f64 r=Ieee.double.word true r:=by
 have e:=or_sign h true
 rw [if_pos rfl] at e
 rw [←e]
 show r^^^2^63=_
 apply Nat.eq_of_testBit_eq
 intro i
 rw [Nat.testBit_xor,Nat.testBit_or,Nat.testBit_two_pow]
 by_cases hi:63=i
 ·subst hi
  rw [Nat.testBit_lt_two_pow h]
  rfl
 ·simp [hi]
theorem unary_neg_float (k:FloatKind) (b:Nat):Op.unary .neg (.float k b)=pure (.float k (Op.negFloat k b)):=rfl
attribute [local go_sem] unary_neg_float
theorem nat_words {A:Nat} (h:A<2^128):loW (A:Int)=((A % 2^64:Nat):Int)∧IntKind.u64.wrap (hiW (A:Int))=((A/2^64:Nat):Int):=by
 constructor
 ·unfold loW;omega
 ·simp only [IntKind.wrap_u64];unfold hiW;omega
theorem divided_words (A n:Nat) (hA0:0<A) (hA:A<2^128) (hn:0<n) (hn2:n≤20000000000) (w:World):
  Calls Tryz.prog 186 #[(Value.agg #[.int .i64 (hiW ((A:Int))),.int .u64 (loW ((A:Int)))]),.int .u64 (n:Int)] w fun e w'=>e= .returned (.float .f64 (ofR A n))∧Below w.heap.size w w':=by
 obtain ⟨h1,h2⟩:=nat_words hA
 rw [h1]
 exact divided_any A n hA0 hA hn hn2 (hiW A) h2 w
theorem of_bad {n:Int} (h:n<0∨20000000000<n):ofBad n=true:=by unfold ofBad;simp [h]
theorem of_good {n:Int} (h1:0≤n) (h2:n≤20000000000):ofBad n=false:=by unfold ofBad;simp;omega
theorem ratio_of (a n:Int) (ha:I128 a) (hn: -9223372036854775808≤n∧n≤9223372036854775807) (w:World):
  Calls Tryz.prog 125 #[(Value.agg #[.int .i64 (hiW (a)),.int .u64 (loW (a))]),.int .i64 n] w fun e w'=>e= .returned (.tuple #[.float .f64 (ofF a n),.int .i64 (ofE n)])∧Below w.heap.size w w':=by
 have C1:=fun W=>cmp_words (hiW a) (loW a) 0 0 W
 rw [cmp_zero ha] at C1
 have NG:=fun W=>neg_any a W
 replace C1:=hid C1
 by_cases hbad:n<0∨20000000000<n
 ·have e1:ofF a n=0:=by unfold ofF;rw [of_bad hbad];rfl
  have e2:ofE n=90:=by unfold ofE;rw [of_bad hbad];rfl
  rw [e1,e2]
  generalize hiW a=H at*;generalize loW a=L at*
  generalize sgnI a 0=S at*
  clear e1 e2 ha NG
  rcases Int.lt_or_le n 0 with h1|h1
  ·clear hbad
   go_enter Tryz.func125,Tryz.ntmps125
   go_wp2_with (go_at_call 185;((with_reducible refine (C1.out _).mono ?_);rintro e w1 ⟨rfl,hw1⟩))
   all_goals
    ((show bodyPost _ _ _ _ _ _);refine bodyPost_ret (by simp only [results,Tryz.results125];go_simp;try rfl) rfl ?_)
    exact ⟨rfl,Gr⟩
  ·have h2:20000000000<n:=by omega
   clear hbad
   go_enter Tryz.func125,Tryz.ntmps125
   go_wp2_with (go_at_call 185;((with_reducible refine (C1.out _).mono ?_);rintro e w1 ⟨rfl,hw1⟩))
   all_goals
    ((show bodyPost _ _ _ _ _ _);refine bodyPost_ret (by simp only [results,Tryz.results125];go_simp;try rfl) rfl ?_)
    exact ⟨rfl,Gr⟩
 ·have hg:ofBad n=false:=of_good (by omega) (by omega)
  have h1:0≤n:=by omega
  have h2:n≤20000000000:=by omega
  have e2:ofE n=0:=by unfold ofE;rw [hg];rfl
  rw [e2]
  by_cases hn0:n=0
  ·subst hn0
   by_cases ha0:a=0
   ·have e1:ofF a 0=9221120237041090561:=by unfold ofF;rw [hg,ha0];rfl
    rw [e1]
    have es:sgnI a 0=0:=sgn_eq ha0
    rw [es] at C1
    generalize hiW a=H at*;generalize loW a=L at*
    clear e1 e2 ha NG hg hbad es ha0 h1 h2 hn
    go_enter Tryz.func125,Tryz.ntmps125
    go_wp2_with (first
     |(go_at_call 185;((with_reducible refine (C1.out _).mono ?_);rintro e w1 ⟨rfl,hw1⟩))
     |(go_at_call 140;((with_reducible refine (nan_any _).mono ?_);rintro e w2 ⟨rfl,rfl⟩)))
    all_goals
     ((show bodyPost _ _ _ _ _ _);refine bodyPost_ret (by simp only [results,Tryz.results125];go_simp;try rfl) rfl ?_)
     exact ⟨rfl,Gr⟩
   ·have hs:sgnI a 0≠0∧(decide (sgnI a 0<0)=decide (a<0)):=by
     unfold sgnI
     rcases Int.lt_trichotomy a 0 with h|h|h
     ·rw [if_pos h];simp [h]
     ·exact absurd h ha0
     ·rw [if_neg (by omega),if_pos h];simp;omega
    have e1:ofF a 0=Ieee.double.word (decide (sgnI a 0<0)) (2047*2^52):=by unfold ofF;rw [hg,hs.2];simp [ha0]
    rw [e1]
    have hs1:=hs.1
    generalize hiW a=H at*;generalize loW a=L at*
    generalize sgnI a 0=S at*
    have IN:=hid (fun W=>inf_any S W)
    generalize Ieee.double.word (decide (S<0)) (2047*2^52)=Z at*
    clear e1 e2 ha NG hg hbad hs ha0 h1 h2 hn
    go_enter Tryz.func125,Tryz.ntmps125
    go_wp2_with (first
     |(go_at_call 185;((with_reducible refine (C1.out _).mono ?_);rintro e w1 ⟨rfl,hw1⟩))
     |(go_at_call 141;((with_reducible refine (IN.out _).mono ?_);rintro e w2 ⟨rfl,rfl⟩)))
    all_goals
     ((show bodyPost _ _ _ _ _ _);refine bodyPost_ret (by simp only [results,Tryz.results125];go_simp;try rfl) rfl ?_)
     exact ⟨rfl,Gr⟩
  ·obtain ⟨N,rfl⟩:=Int.eq_ofNat_of_zero_le h1
   have hN:0<N:=by omega
   have hN2:N≤20000000000:=by omega
   by_cases ha0:a=0
   ·have e1:ofF a N=0:=by unfold ofF;rw [hg,ha0];rw [if_neg (by simp),if_neg hn0,if_pos rfl]
    rw [e1]
    have es:sgnI a 0=0:=sgn_eq ha0
    rw [es] at C1
    generalize hiW a=H at*;generalize loW a=L at*
    clear e1 e2 ha NG hg hbad es ha0 hn
    go_enter Tryz.func125,Tryz.ntmps125
    go_wp2_with (go_at_call 185;((with_reducible refine (C1.out _).mono ?_);rintro e w1 ⟨rfl,hw1⟩))
    all_goals
     ((show bodyPost _ _ _ _ _ _);refine bodyPost_ret (by simp only [results,Tryz.results125];go_simp;try rfl) rfl ?_)
     exact ⟨rfl,Gr⟩
   ·have e1:ofF a N=Ieee.double.word (decide (a<0)) (ofR a.natAbs N):=by unfold ofF;rw [hg,if_neg (by simp),if_neg hn0,if_neg ha0];rfl
    rw [e1]
    rcases Int.lt_or_le a 0 with hneg|hpos
    ·have es:sgnI a 0= -1:=sgn_lt hneg
     rw [es] at C1
     have D:=hid (fun W=>divided_words a.natAbs N (by omega) (by omega) hN hN2 W)
     have en: -a=(a.natAbs:Int):=by omega
     rw [en] at NG
     replace NG:=hid NG
     have hr:ofR a.natAbs N<2^63:=by have:=(ofR_lt (A:=a.natAbs) (n:=N) (by omega) (by omega) hN (by omega)).2;omega
     have ef:=neg_float hr
     rw [show decide (a<0)=true by simp [hneg],←ef]
     generalize ofR a.natAbs N=Z at*
     generalize a.natAbs=A at*
     generalize hiW a=H at*;generalize loW a=L at*
     generalize hiW (A:Int)=H2 at*;generalize loW (A:Int)=L2 at*
     clear e1 e2 ha hg hbad es ha0 hn en ef hr
     have s0:(w.alloc (.cells #[.int .i64 H,.int .u64 L] 126)).cell? ⟨w.heap.size,0,none⟩=some (.int .i64 H):=by go_simp
     have s1:(w.alloc (.cells #[.int .i64 H,.int .u64 L] 126)).cell? ⟨w.heap.size,1,none⟩=some (.int .u64 L):=by go_simp
     go_enter Tryz.func125,Tryz.ntmps125
     go_wp2_with (first
      |(go_at_call 185;go_loud ((with_reducible refine (C1.out _).mono ?_);rintro e w1 ⟨rfl,hw1⟩;have e0:=cell_step s0 hw1;have e1:=cell_step s1 hw1))
      |(go_at_call 187;((with_reducible refine (NG.out _).mono ?_);rintro e w2 ⟨rfl,hw2⟩))
      |(go_at_call 186;((with_reducible refine (D.out _).mono ?_);rintro e w3 ⟨rfl,hw3⟩)))
     all_goals
      ((show bodyPost _ _ _ _ _ _);refine bodyPost_ret (by simp only [results,Tryz.results125];go_simp;try rfl) rfl ?_)
      exact ⟨rfl,Gr⟩
    ·have es:sgnI a 0=1:=sgn_gt (by omega)
     rw [es] at C1
     have D:=hid (fun W=>divided_words a.natAbs N (by omega) (by omega) hN hN2 W)
     have en:(a.natAbs:Int)=a:=by omega
     rw [en] at D
     rw [show decide (a<0)=false by simp;omega,word_false]
     generalize ofR a.natAbs N=Z at*
     generalize hiW a=H at*;generalize loW a=L at*
     clear e1 e2 ha hg hbad es ha0 hn en NG
     have s0:(w.alloc (.cells #[.int .i64 H,.int .u64 L] 126)).cell? ⟨w.heap.size,0,none⟩=some (.int .i64 H):=by go_simp
     have s1:(w.alloc (.cells #[.int .i64 H,.int .u64 L] 126)).cell? ⟨w.heap.size,1,none⟩=some (.int .u64 L):=by go_simp
     go_enter Tryz.func125,Tryz.ntmps125
     go_wp2_with (first
      |(go_at_call 185;go_loud ((with_reducible refine (C1.out _).mono ?_);rintro e w1 ⟨rfl,hw1⟩;have e0:=cell_step s0 hw1;have e1:=cell_step s1 hw1))
      |(go_at_call 186;((with_reducible refine (D.out _).mono ?_);rintro e w3 ⟨rfl,hw3⟩)))
     all_goals
      ((show bodyPost _ _ _ _ _ _);refine bodyPost_ret (by simp only [results,Tryz.results125];go_simp;try rfl) rfl ?_)
      exact ⟨rfl,Gr⟩
theorem ratio_float (a:Int) (ha:I128 a) (w:World):
  Calls Tryz.prog 99 #[(Value.agg #[.int .i64 (hiW (a)),.int .u64 (loW (a))])] w fun e w'=>e= .returned (.float .f64 (ofF a 1))∧Below w.heap.size w w':=by
 have O:=hid (fun W=>ratio_of a 1 ha (by decide) W)
 generalize ofF a 1=Z at*
 generalize hiW a=H at*;generalize loW a=L at*
 clear ha
 go_enter Tryz.func99,Tryz.ntmps99
 go_wp2_with (go_at_call 125;((with_reducible refine (O.out _).mono ?_);rintro e w1 ⟨rfl,hw1⟩))
 go_ret
 exact ⟨rfl,Gr⟩
theorem info_int:(Tryz.prog.info? 3).map (fun i=>(i.zero,i.size,i.bytes))=some (some (.int .i64 0),1,8):=by kernel_rfl
def dig:Nat→Nat→List Nat
 |0,_=>[]
 |w+1,v=>v/2^w % 2::dig w v
theorem rNeg_any (n:Int) (w:World):Calls Tryz.prog 195 #[(Value.agg #[.int .i64 (hiW (n)),.int .u64 (loW (n))])] w fun e w'=>e= .returned ((Value.agg #[.int .i64 (hiW (-n)),.int .u64 (loW (-n))]))∧Below w.heap.size w w':=by
 have h:=refNeg_words (hiW n) (loW n) (hiW_is n) (loW_is n) w
 rw [wv_eq (n:= -(hiW n*18446744073709551616+loW n)) (m:= -n) (by have:=words n;omega)] at h
 exact h
theorem rneg_any (H L:Int) (w:World):Calls Tryz.prog 145 #[.agg #[.int .i64 H,.int .u64 L]] w fun e w'=>e= .returned (.bool (decide (H<0)))∧Below w.heap.size w w':=by
 go_enter Tryz.func145,Tryz.ntmps145
 go_wp2
 go_ret
 exact ⟨rfl,Gr⟩
theorem hi_neg {a:Int} (ha:I128 a):decide (hiW a<0)=decide (a<0):=by
 rw [Bool.eq_iff_iff]
 unfold hiW
 simp
 omega
theorem dig_get:∀(w v j:Nat),j<w→(dig w v)[j]? =some (v/2^(w-1-j) % 2)
 |w+1,v,0,_=>by simp [dig]
 |w+1,v,j+1,h=>by
  rw [dig,List.getElem?_cons_succ,dig_get w v j (by omega)]
  congr 4
  omega
theorem half_lo (A:Nat) {j:Nat} (hj:j<64):A % 2^64/2^(j % 64) % 2=A/2^j % 2:=by
 rw [Nat.mod_eq_of_lt hj]
 have h:(2:Nat)^64=2^j*2^(64-j):=by rw [←Nat.pow_add];congr 1;omega
 rw [h,Nat.mod_mul_right_div_self,Nat.mod_mod_of_dvd _ ⟨2^(64-j-1),by rw [←Nat.pow_succ',Nat.succ_eq_add_one,show 64-j-1+1=64-j by omega]⟩]
theorem half_hi (A:Nat) {j:Nat} (h1:64≤j) (h2:j<128):A/2^64/2^(j % 64) % 2=A/2^j % 2:=by
 rw [Nat.div_div_eq_div_mul,←Nat.pow_add,show 64+j % 64=j by omega]
def digI (l:List Nat):List Value:=l.map fun d:Nat=>Value.int .i64 (d:Int)
theorem digI_app (l:List Nat) (d:Nat):digI l++[Value.int .i64 (d:Int)]=digI (l++[d]):=by simp [digI]
set_option maxHeartbeats 2000000 in
theorem rdigits_any (a:Int) (ha:I128 a) (w:World):
  Calls Tryz.prog 142 #[(Value.agg #[.int .i64 (hiW (a)),.int .u64 (loW (a))])] w fun e w'=>∃v,e= .returned v∧w'.ownsRow (w.heap.size+1) 3 1 v 128 (digI (dig 128 a.natAbs))∧Below w.heap.size w w':=by
 obtain ⟨i0,hi,hiz0,hiz1,hiz2⟩:=info_parts info_int
 obtain ⟨A,hA⟩:∃A,a.natAbs=A:=⟨_,rfl⟩
 have hA2:A<2^128:=by omega
 have HN:=hid (fun W=>rneg_any (hiW a) (loW a) W)
 rw [hi_neg ha] at HN
 have hpos:¬a<0→(Value.agg #[.int .i64 (hiW (a)),.int .u64 (loW (a))])=(Value.agg #[.int .i64 (hiW ((A:Int))),.int .u64 (loW ((A:Int)))]):=fun h=>by rw [show (A:Int)=a by omega]
 have HM:a<0→∀W,Calls Tryz.prog 195 #[(Value.agg #[.int .i64 (hiW (a)),.int .u64 (loW (a))])] W fun e w'=>e= .returned ((Value.agg #[.int .i64 (hiW ((A:Int))),.int .u64 (loW ((A:Int)))]))∧Below W.heap.size W w':=fun h W=>by
  have:=rNeg_any a W
  rw [show -a=(A:Int) by omega] at this
  exact this
 rw [hA]
 obtain ⟨n1,n2⟩:=nat_words hA2
 generalize hiW a=H at*;generalize loW a=L at*
 generalize hiW (A:Int)=H2 at*
 rw [n1] at hpos HM
 have HP:=hid hpos;replace HM:=hid HM
 have N2:=hid n2
 have HA:=hid hA2
 clear hpos hA ha n1 n2 hA2
 obtain ⟨LO,hLO⟩:∃LO,A % 2^64=LO:=⟨_,rfl⟩
 rw [hLO] at HP HM
 have HLO:=hid hLO
 clear hLO
 go_enter Tryz.func142,Tryz.ntmps142
 go_upto_if 7 with (go_at_call 145;go_loud ((with_reducible refine (HN.out _).mono ?_);rintro e w1 ⟨rfl,hw1⟩))
 go_cut [1] (fun s1 wx=>s1= .pointer (some ⟨w.heap.size,0,none⟩)∧wx.heap[w.heap.size]? =some (.cells #[.int .i64 H2,.int .u64 (LO:Int)] 126 (0,0))∧Below w.heap.size w wx)
 case first=>
  have s0:(w.alloc (.cells #[.int .i64 H,.int .u64 L] 126)).cell? ⟨w.heap.size,0,none⟩=some (.int .i64 H):=by go_simp
  have s1:(w.alloc (.cells #[.int .i64 H,.int .u64 L] 126)).cell? ⟨w.heap.size,1,none⟩=some (.int .u64 L):=by go_simp
  have e0:=cell_step s0 hw1;have e1:=cell_step s1 hw1
  by_cases h:a<0
  ·have hd:decide (a<0)=true:=by simp [h]
   have HM2:=hid (HM.out h)
   rw [hd]
   clear HM HP HN hd
   go_wp2_with (go_at_call 195;go_loud ((with_reducible refine (HM2.out _).mono ?_);rintro e w2 ⟨rfl,hw2⟩;have hA2:=(hw2.block w.heap.size (by have:=hw1.size;simp at this;omega)).trans ((hw1.block w.heap.size (by simp)).trans (heap_at rfl));obtain ⟨c0,c1,g0,g1,b1⟩:=two_is hA2))
   go_meet
   case rel=>exact ⟨rfl,two_set hA2,Gr⟩
  ·have hd:decide (a<0)=false:=by simp [h]
   have hp:=HP.out (by omega)
   simp only [Value.agg.injEq,Array.mk.injEq,List.cons.injEq,Value.int.injEq,true_and,and_true] at hp
   obtain ⟨rfl,rfl⟩:=hp
   have hA1:=(hw1.block w.heap.size (by simp)).trans (heap_at (w:=w) (o:= .cells #[.int .i64 H,.int .u64 (LO:Int)] 126) rfl)
   rw [hd]
   clear HM HP HN hd
   go_wp2_with fail
   go_meet
   case rel=>exact ⟨rfl,hA1,Gr⟩
 case rest=>
  obtain ⟨rfl,hbox,hcb⟩:=hcut
  clear hw1 HN HP HM
  obtain ⟨V,rfl⟩:∃V,V=wc:=⟨_,rfl⟩
  have hVs:=hcb.size
  have hbl:=lt_of_block hbox
  go_wp2
  go_loopw [3,4] (fun v i wr=>∃(r:Nat) (P:List Nat),P.length+r=128∧i= .int .i64 ((r:Int)-1)∧P++dig r A=dig 128 A∧wr.ownsRow (w.heap.size+1) 3 1 v P.length (digI P)∧wr.heap[w.heap.size]? =some (.cells #[.int .i64 H2,.int .u64 (LO:Int)] 126 (0,0))∧Below w.heap.size w wr) (fun _ i _=>(intOf i+1).toNat)
  case atStart=>exact ⟨128,[],by simp,by go_num,rfl,World.ownsRow_nil _ _ _ _,hbox,hcb⟩
  case round=>
   obtain ⟨r,P,hl,rfl,hP,hown,hbx,hbel⟩:=hrel
   obtain ⟨N,hN⟩:∃N,P.length=N:=⟨_,rfl⟩
   rw [hN] at hl hown
   have hsz:=hbel.size
   obtain ⟨c0,c1,g0,g1,b1⟩:=two_is hbx
   cases r with
   |succ j=>
    rw [show ((j+1:Nat):Int)-1=(j:Int) by omega]
    have hj:j<128:=by omega
    obtain ⟨h,hh⟩:∃h:Nat,h=if 64≤j then A/2^64 else LO:=⟨_,rfl⟩
    have hdd:h/2^(j % 64) % 2=A/2^j % 2:=by
     rw [hh]
     split
     ·exact half_hi A (by omega) hj
     ·rw [←HLO.out];exact half_lo A (by omega)
    obtain ⟨s,hs⟩:∃s,j % 64=s:=⟨_,rfl⟩
    have hs2:s<64:=by omega
    have htj:(j:Int).tmod 64=(s:Int):=by rw [←hs];rfl
    have htj2:(j:Int) % 64=(s:Int):=by omega
    rw [hs] at hdd
    obtain ⟨q,hq⟩:∃q,h/2^s=q:=⟨_,rfl⟩
    have hsh:(h:Int)/2^s=(q:Int):=by
     have:((h:Int)/2^s)=((h/2^s:Nat):Int):=by simp
     rw [this,hq]
    have htm:(q:Int).tmod 2=((q % 2:Nat):Int):=rfl
    have htm2:(q:Int) % 2=((q % 2:Nat):Int):=rfl
    obtain ⟨d,hd⟩:∃d,q % 2=d:=⟨_,rfl⟩
    rw [hd] at htm htm2
    have hd2:d<2:=by omega
    have hP2:(P++[d])++dig j A=dig 128 A:=by rw [←hP,dig,←hdd,hq,hd];simp
    have HP:=hid hP2;have HN:=hid hN;have HH:=hid hh
    clear hP hdd hq hd hP2 hN hs hh
    rcases Nat.lt_or_ge j 64 with h64|h64
    ·have eh:h=LO:=by rw [HH.out,if_neg (by omega)]
     subst eh
     clear HH
     go_wp2_with (at_builtin;go_loud (refine wpList_append_own _ rfl _ _ 189 rfl (w.heap.size+1) 3 i0 (.int .i64 0) 1 8 Tryz.underlying189 hi hiz0 hiz1 hiz2 rfl (by decide) _ _ _ rfl (hown.alloc _) ⟨wr.heap.size,0,none⟩ 1 1 [.int .i64 ((d:Int))] rfl rfl (one_new _ _ _) (one_int _ _) (by unfold maxLen;omega) (by omega) (by simp;omega) ?_);intro v' w1' hown' hgrow' hnil')
     have hown2:w1'.ownsRow (w.heap.size+1) 3 1 v' (P++[d]).length (digI (P++[d])):=by
      rw [List.length_append,HN.out,←digI_app]
      exact hown'
     have hb2:Below w.heap.size w w1':=(hbel.alloc hsz _).grown hgrow' (by simp;omega) (fun r e=>by have:=(hown.lt r e).1;omega)
     have hl2:(P++[d]).length=N+1:=by rw [List.length_append,HN.out];rfl
     have hbx2:=(hgrow'.block w.heap.size (by simp;omega) (fun e=>by have:=(hown.lt _ e.symm).1;omega)).trans ((heap_past (by omega)).trans hbx)
     go_roundw
     case rel=>exact ⟨j,P++[d],by omega,by go_num,HP.out,hown2,hbx2,hb2⟩
     case measure=>simp [intOf]
    ·have eh:IntKind.u64.wrap H2=(h:Int):=by rw [N2.out,HH.out,if_pos h64]
     have h64':64≤(j:Int):=by omega
     clear HH
     go_wp2_with (at_builtin;go_loud (refine wpList_append_own _ rfl _ _ 189 rfl (w.heap.size+1) 3 i0 (.int .i64 0) 1 8 Tryz.underlying189 hi hiz0 hiz1 hiz2 rfl (by decide) _ _ _ rfl (hown.alloc _) ⟨wr.heap.size,0,none⟩ 1 1 [.int .i64 ((d:Int))] rfl rfl (one_new _ _ _) (one_int _ _) (by unfold maxLen;omega) (by omega) (by simp;omega) ?_);intro v' w1' hown' hgrow' hnil')
     have hown2:w1'.ownsRow (w.heap.size+1) 3 1 v' (P++[d]).length (digI (P++[d])):=by
      rw [List.length_append,HN.out,←digI_app]
      exact hown'
     have hb2:Below w.heap.size w w1':=(hbel.alloc hsz _).grown hgrow' (by simp;omega) (fun r e=>by have:=(hown.lt r e).1;omega)
     have hl2:(P++[d]).length=N+1:=by rw [List.length_append,HN.out];rfl
     have hbx2:=(hgrow'.block w.heap.size (by simp;omega) (fun e=>by have:=(hown.lt _ e.symm).1;omega)).trans ((heap_past (by omega)).trans hbx)
     go_roundw
     case rel=>exact ⟨j,P++[d],by omega,by go_num,HP.out,hown2,hbx2,hb2⟩
     case measure=>simp [intOf]
   |zero=>
    obtain rfl:N=128:=by omega
    have hPe:P=dig 128 A:=by simpa [dig] using hP
    obtain ⟨ao,cap,rfl⟩:=hown.shape
    have HO:=hid hown;have HPE:=hid hPe
    clear hown hP hPe hN
    go_wp2
    go_ret
    exact ⟨_,rfl,HPE.out▸HO.out,hbel⟩
attribute [local go_sem] frombits_lit Int.toNat_natCast
theorem bits_mask (m:Nat) (h:m<2^64):bits .and .u64 (m:Int) 4503599627370495=((m % 2^52:Nat):Int):=by
 have:=bits_and m 4503599627370495 h (by decide)
 rw [show (4503599627370495:Nat)=2^52-1 by decide,Nat.and_two_pow_sub_one_eq_mod] at this
 exact this
theorem bits_join (F m:Nat) (hF:F<2048):bits .or .u64 ((F*2^52:Nat):Int) ((m % 2^52:Nat):Int)=((F*2^52+m % 2^52:Nat):Int):=by
 have hm:m % 2^52<2^52:=Nat.mod_lt _ (by decide)
 rw [bits_or _ _ (by omega) (by omega),Nat.mul_comm F,←Nat.two_pow_add_eq_or_of_lt hm]
theorem bits_sign {r:Nat} (h:r<2^63):bits .or .u64 (r:Int) 9223372036854775808=((Ieee.double.word true r:Nat):Int):=by
 have:=bits_or r 9223372036854775808 (by omega) (by decide)
 rw [show (9223372036854775808:Nat)=(if true then 2^63 else 0) by decide,or_sign h] at this
 exact this
theorem rbits_any (neg:Bool) (F m:Nat) (h1:1≤F) (h2:F<2047) (h3:2^52≤m) (h4:m<2^53) (w:World):
  Calls Tryz.prog 144 #[.bool neg,.int .u64 (m:Int),.int .i64 ((F:Int)-1075)] w fun e w'=>e= .returned (.int .u64 ((Ieee.double.word neg ((F-1)*2^52+m):Nat):Int))∧w'=w:=by
 have q1:=bits_mask m (by omega)
 have q2:=bits_join F m (by omega)
 have er:F*2^52+m % 2^52=(F-1)*2^52+m:=by omega
 rw [er] at q2
 have q3:=bits_sign (show (F-1)*2^52+m<2^63 by omega)
 obtain ⟨R,hR⟩:∃R,(F-1)*2^52+m=R:=⟨_,rfl⟩
 rw [hR] at q2 q3 ⊢
 obtain ⟨Z,hZ⟩:∃Z:Int,((F*2^52:Nat):Int)=Z:=⟨_,rfl⟩
 have s1:IntKind.u64.wrap ((F:Int)*4503599627370496)=Z:=by rw [←hZ,IntKind.wrap_u64];omega
 have s2:IntKind.i64.wrap ((F:Int)-1075+52)=(F:Int)-1023:=by simp only [IntKind.wrap_i64];omega
 have s3:IntKind.i64.wrap ((F:Int)-1023+1023)=(F:Int):=by simp only [IntKind.wrap_i64];omega
 have s4:IntKind.u64.wrap (F:Int)=(F:Int):=by rw [IntKind.wrap_u64];omega
 rw [hZ,show ((m % 2^52:Nat):Int)=(m:Int) % 4503599627370496 by omega] at q2
 rw [show ((m % 2^52:Nat):Int)=(m:Int) % 4503599627370496 by omega] at q1
 cases neg
 ·rw [word_false]
  clear er hR hZ h3 h4 q3
  go_enter Tryz.func144,Tryz.ntmps144
  go_wp2
  go_ret
  exact ⟨rfl,rfl⟩
 ·clear er hR hZ h3 h4
  go_enter Tryz.func144,Tryz.ntmps144
  go_wp2
  go_ret
  exact ⟨rfl,rfl⟩
end Go.Proofs.YtejleplhmkmegaaGreatDoor
namespace Go.Fl
def topA (A i:Nat):Nat:=A*2^i/2^128
def bitAt (A i:Nat):Nat:=if i<128 then A/2^(127-i) % 2 else 0
def sumD (A:Nat):Nat→Nat
 |0=>0
 |k+1=>A/2^k % 2+sumD A k
def leftA (A i:Nat):Nat:=if i<128 then sumD A (127-i) else 0
theorem topA_eq (A i:Nat):topA A i=A*2^i/2^128:=rfl
theorem quo_topA (A n i:Nat):quo A n i=topA A i/n:=by
 unfold quo topA
 rw [Nat.div_div_eq_div_mul,Nat.mul_comm n]
theorem topA_low {A i:Nat} (h:i≤128):topA A i=A/2^(128-i):=by
 unfold topA
 have e:(2:Nat)^128=2^(128-i)*2^i:=by rw [←Nat.pow_add];congr 1;omega
 rw [e,Nat.mul_div_mul_right _ _ (Nat.pow_pos (by decide))]
theorem topA_high {A i:Nat} (h:128≤i):topA A i=A*2^(i-128):=by
 unfold topA
 have e:(2:Nat)^i=2^(i-128)*2^128:=by rw [←Nat.pow_add];congr 1;omega
 rw [e,←Nat.mul_assoc,Nat.mul_div_cancel _ (Nat.pow_pos (by decide))]
theorem topA_succ (A i:Nat):topA A (i+1)=2*topA A i+bitAt A i:=by
 unfold bitAt
 by_cases h:i<128
 ·rw [if_pos h,topA_low (by omega),topA_low (by omega),show 128-(i+1)=127-i by omega,show 128-i=127-i+1 by omega,Nat.pow_succ,←Nat.div_div_eq_div_mul]
  omega
 ·rw [if_neg h,topA_high (by omega),topA_high (by omega),show i+1-128=i-128+1 by omega,Nat.pow_succ]
  generalize 2^(i-128)=p
  rw [←Nat.mul_assoc]
  omega
theorem topA_zero {A:Nat} (h:A<2^128):topA A 0=0:=by
 unfold topA
 rw [Nat.pow_zero,Nat.mul_one,Nat.div_eq_of_lt h]
theorem bitAt_lt (A i:Nat):bitAt A i<2:=by unfold bitAt;split<;>omega
theorem sumD_le (A:Nat):∀k,sumD A k≤k
 |0=>Nat.le_refl _
 |k+1=>by
  have:=sumD_le A k
  unfold sumD
  omega
theorem sumD_zero (A:Nat):∀k,sumD A k=0↔A % 2^k=0
 |0=>by simp [sumD,Nat.mod_one]
 |k+1=>by
  have:=sumD_zero A k
  unfold sumD
  rw [Nat.pow_succ,Nat.mod_mul]
  have hp:0<2^k:=Nat.pow_pos (by decide)
  constructor
  ·intro h
   rw [this.1 (by omega),show A/2^k % 2=0 by omega]
   simp
  ·intro h
   have h1:A % 2^k=0:=by omega
   have h2:2^k*(A/2^k % 2)=0:=by omega
   rcases Nat.mul_eq_zero.1 h2 with h3|h3
   ·omega
   ·have:=this.2 h1;omega
theorem low_left {A i:Nat}:A*2^(i+1) % 2^128≠0↔0<leftA A i:=by
 unfold leftA
 by_cases h:i<128
 ·rw [if_pos h,Nat.pos_iff_ne_zero,ne_eq,ne_eq]
  refine not_congr ?_
  rw [sumD_zero]
  have e:(2:Nat)^128=2^(127-i)*2^(i+1):=by rw [←Nat.pow_add];congr 1;omega
  rw [e,Nat.mul_mod_mul_right]
  have hp:0<2^(i+1):=Nat.pow_pos (by decide)
  constructor
  ·intro h
   rcases Nat.mul_eq_zero.1 h with h3|h3
   ·exact h3
   ·omega
  ·intro h;rw [h,Nat.zero_mul]
 ·rw [if_neg h]
  have e:(2:Nat)^(i+1)=2^(i+1-128)*2^128:=by rw [←Nat.pow_add];congr 1;omega
  rw [e,←Nat.mul_assoc,Nat.mul_mod_left]
  simp
def lastA (A n i:Nat):Nat:=2*(topA A i % n)+bitAt A i
theorem lastA_lt {A n i:Nat} (hn:0<n):lastA A n i<2*n:=by
 unfold lastA
 have:=Nat.mod_lt (topA A i) hn
 have:=bitAt_lt A i
 omega
theorem quo_last {A n:Nat} (hn:0<n) (i:Nat):quo A n (i+1)=2*quo A n i+lastA A n i/n∧topA A (i+1) % n=lastA A n i % n:=by
 have e:topA A (i+1)=lastA A n i+n*(2*(topA A i/n)):=by
  rw [topA_succ]
  unfold lastA
  have h1:=Nat.div_add_mod (topA A i) n
  have h2:n*(2*(topA A i/n))=2*(n*(topA A i/n)):=by rw [Nat.mul_left_comm]
  omega
 rw [quo_topA,quo_topA,e,Nat.add_mul_div_left _ _ hn,Nat.add_mul_mod_self_left]
 exact ⟨Nat.add_comm _ _,rfl⟩
theorem upB_is {A n:Nat} (hn:0<n) (i:Nat):upB A n i=(decide (n<lastA A n i)||(decide (lastA A n i=n)&&(decide (0<leftA A i)||decide (quo A n i % 2=1)))):=by
 unfold upB
 obtain ⟨h1,h2⟩:=quo_last (A:=A) hn i
 have h3:=lastA_lt (A:=A) (i:=i) hn
 have h4:A*2^(i+1) % (n*2^128)=A*2^(i+1) % 2^128+2^128*(lastA A n i % n):=by
  rw [Nat.mul_comm n,Nat.mod_mul,←topA_eq,h2]
 rw [h4,h1]
 have h5:= @low_left A i
 generalize A*2^(i+1) % 2^128=low at*
 generalize leftA A i=L at*
 generalize quo A n i=q at*
 generalize lastA A n i=X at*
 rw [Bool.eq_iff_iff]
 rcases Nat.lt_trichotomy X n with h|h|h
 ·have e1:(2*q+0) % 2=0:=by omega
  have e2:¬n<X:=by omega
  have e3:¬X=n:=by omega
  rw [Nat.div_eq_of_lt h,e1]
  simp [e2,e3]
 ·subst h
  have e1:(2*q+1) % 2=1:=by omega
  rw [Nat.div_self hn,Nat.mod_self,e1]
  simp [h5]
 ·have hX:X/n=1:=Nat.div_eq_of_lt_le (k:=1) (by omega) (by omega)
  have hY:X % n=X-n:=by rw [Nat.mod_eq_sub_mod (by omega),Nat.mod_eq_of_lt (by omega)]
  have hZ:(low+2^128*(X-n) !=0)=true:=by simp;omega
  rw [hX,hY,hZ]
  simp [h]
end Go.Fl
