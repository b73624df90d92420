/- Texts joined: OuL. -/
import Derived.Test.YtejleplhmkmegaaGreatDoorOz
import Derived.Test.YtejleplhmkmegaaGreatDoorOf
import Derived.Test.YtejleplhmkmegaaGreatDoorOk
import Derived.Test.YtejleplhmkmegaaGreatDoorOh
set_option linter.unusedVariables false
set_option linter.unusedSimpArgs false
namespace Go.Proofs.YtejleplhmkmegaaGreatDoor
set_option maxRecDepth 100000
open Go.ChangeShapes Go.WideShapes Go.ChangeAt Go.RowKit Go.Fl
attribute [local go_sem] run_store_float run_equalIn_float
theorem cmpN_neg (a b:NumD):cmpN b a= -cmpN a b:=by
 unfold cmpN
 rw [Bool.or_comm b.fl a.fl]
 split
 all_goals
  unfold sgnI
  (repeat' split)<;>omega
theorem byP_neg (k:KeyD) (a b:LineD):byP k b a= -byP k a b:=by
 unfold byP
 split
 ·by_cases h:0≤k.pos∧k.pos.toNat<a.nums.length∧k.pos.toNat<b.nums.length
  ·rw [dif_pos h,dif_pos ⟨h.1,h.2.2,h.2.1⟩,cmpN_neg]
  ·rw [dif_neg h,dif_neg (fun h2=>h ⟨h2.1,h2.2.2,h2.2.1⟩)]
   rfl
 ·by_cases h:0≤k.pos∧k.pos.toNat<a.key.length∧k.pos.toNat<b.key.length
  ·rw [dif_pos h,dif_pos ⟨h.1,h.2.2,h.2.1⟩,cmpV_neg]
  ·rw [dif_neg h,dif_neg (fun h2=>h ⟨h2.1,h2.2.2,h2.2.1⟩)]
   rfl
theorem byI_neg (k:KeyD) (a b:LineD):byI k b a= -byI k a b:=by
 unfold byI
 rw [byP_neg]
 split<;>rfl
structure BySt (w:World) (kc xc yc:Array Value) (X:World):Prop where
 bk:X.heap[w.heap.size]? =some (.cells kc 131 (0,0))
 bx:X.heap[w.heap.size+1]? =some (.cells xc 37 (0,0))
 by_:X.heap[w.heap.size+1+1]? =some (.cells yc 37 (0,0))
 bel:Below w.heap.size w X
theorem BySt.putX {w X Y:World} {kc xc yc xc':Array Value} (h:BySt w kc xc yc X) (hg:X.grownBy Y (some (w.heap.size+1))) (hs:Y.heap[w.heap.size+1]? =some (.cells xc' 37 (0,0))):BySt w kc xc' yc Y:=
 ⟨(hg.block _ (lt_of_block h.bk) (fun e=>by have:=Option.some.inj e;omega)).trans h.bk,hs,(hg.block _ (lt_of_block h.by_) (fun e=>by have:=Option.some.inj e;omega)).trans h.by_,grown_below hg (by omega) h.bel⟩
theorem BySt.putY {w X Y:World} {kc xc yc yc':Array Value} (h:BySt w kc xc yc X) (hg:X.grownBy Y (some (w.heap.size+1+1))) (hs:Y.heap[w.heap.size+1+1]? =some (.cells yc' 37 (0,0))):BySt w kc xc yc' Y:=
 ⟨(hg.block _ (lt_of_block h.bk) (fun e=>by have:=Option.some.inj e;omega)).trans h.bk,(hg.block _ (lt_of_block h.bx) (fun e=>by have:=Option.some.inj e;omega)).trans h.bx,hs,grown_below hg (by omega) h.bel⟩
theorem BySt.step {w X Y:World} {kc xc yc:Array Value} (h:BySt w kc xc yc X) (hb:Below X.heap.size X Y):BySt w kc xc yc Y:=⟨blk_below h.bk hb,blk_below h.bx hb,blk_below h.by_ hb,h.bel.step hb⟩
theorem linfoB:(Tryz.prog.info? 37).map (·.size)=some 4:=by kernel_rfl
def KeySz (a:LineD):Prop:=∀v∈a.key,v.s.size≤9223372036854775807
set_option maxHeartbeats 8000000 in
theorem refBy_agg (p:Int) (desc:Bool) (va vb:LnV) (a b:LineD) (w:World) (ha:LnIs w va a) (hb:LnIs w vb b):
  Calls Tryz.prog 77 #[.agg #[.bool true,.int .i64 p,.bool desc],.agg va.cells,.agg vb.cells] w fun e w'=>e= .returned (.bool (decide (byI ⟨true,p,desc⟩ a b<0)))∧Below w.heap.size w w':=by
 obtain ⟨ao,ac,ea,a1,a2,a3,a4⟩:=ha.nums.parts
 obtain ⟨bo,bc,eb,b1,b2,b3,b4⟩:=hb.nums.parts
 have HA:=hid ha;have HB:=hid hb
 obtain ⟨sa,ta,ka,kna,kca,na,nna,nca⟩:=va
 obtain ⟨sb,tb,kb,knb,kcb,nb,nnb,ncb⟩:=vb
 dsimp only [LnV.cells] at*
 simp only [Value.slice.injEq] at ea eb
 unfold maxLen at a2 b2
 have hneg:=byI_neg ⟨true,p,desc⟩ a b
 by_cases hp:p<0
 ·have e:byI ⟨true,p,desc⟩ a b=0:=by
   unfold byI byP
   dsimp only
   rw [if_pos rfl]
   rw [dif_neg (by omega)]
   split<;>rfl
  rw [e]
  clear a4 b4 e ha hb hneg ea eb
  cases desc
  ·go_enter Tryz.func77,Tryz.ntmps77
   go_upto_region 5 with fail
   obtain ⟨X,hX⟩:∃X,((w.alloc (.cells #[.bool true,.int .i64 p,.bool false] 131)).alloc (.cells #[.int .i64 sa,.int .i64 ta,.slice ka kna kca,.slice na nna nca] 37)).alloc (.cells #[.int .i64 sb,.int .i64 tb,.slice kb knb kcb,.slice nb nnb ncb] 37)=X:=⟨_,rfl⟩
   have S:=hid (show BySt w #[.bool true,.int .i64 p,.bool false] #[.int .i64 sa,.int .i64 ta,.slice ka kna kca,.slice na nna nca] #[.int .i64 sb,.int .i64 tb,.slice kb knb kcb,.slice nb nnb ncb] X from ⟨by rw [←hX];exact Bk,by rw [←hX];exact Bk,by rw [←hX];exact Bk,by rw [←hX];exact Gr⟩)
   rw [hX]
   clear hX
   have z1:=cell_blk (i:=1) (x:= .int .i64 p) S.out.bk rfl
   have HBL:=hid S.out.bel
   go_wp2
   go_ret
   exact ⟨ret_bool (by simp),HBL.out⟩
  ·have S0:Hid (BySt w #[.bool true,.int .i64 p,.bool true] #[.int .i64 sa,.int .i64 ta,.slice ka kna kca,.slice na nna nca] #[.int .i64 sb,.int .i64 tb,.slice kb knb kcb,.slice nb nnb ncb] ((((w.alloc (.cells #[.bool true,.int .i64 p,.bool true] 131)).alloc (.cells #[.int .i64 sa,.int .i64 ta,.slice ka kna kca,.slice na nna nca] 37)).alloc (.cells #[.int .i64 sb,.int .i64 tb,.slice kb knb kcb,.slice nb nnb ncb] 37)).alloc (.cells #[.int .i64 sa,.int .i64 ta,.slice ka kna kca,.slice na nna nca] 37))):=⟨Bk,Bk,Bk,Gr⟩
   have X0:Hid (((((w.alloc (.cells #[.bool true,.int .i64 p,.bool true] 131)).alloc (.cells #[.int .i64 sa,.int .i64 ta,.slice ka kna kca,.slice na nna nca] 37)).alloc (.cells #[.int .i64 sb,.int .i64 tb,.slice kb knb kcb,.slice nb nnb ncb] 37)).alloc (.cells #[.int .i64 sa,.int .i64 ta,.slice ka kna kca,.slice na nna nca] 37)).heap[w.heap.size+1+1+1]? =some (.cells #[.int .i64 sa,.int .i64 ta,.slice ka kna kca,.slice na nna nca] 37 (0,0))):=by unfold Hid;exact heap_at (by simp)
   go_enter Tryz.func77,Tryz.ntmps77
   go_upto_region 5 with (first
    |(go_loud (refine wpList_store_blk rfl _ _ _ rfl _ _ rfl rfl _ _ S0.out.bx (by exact linfoB) (by rfl) (by simp [Value.oneCell']) ?_;intro wv1 hh1 hg1 hz1;have S1:=hid (S0.out.putX hg1 hh1);have X1:=hid ((hg1.block _ (lt_of_block X0.out) (fun e=>by have:=Option.some.inj e;omega)).trans X0.out);have e0:=cell_blk (i:=0) X1.out rfl;have e1:=cell_blk (i:=1) X1.out rfl;have e2:=cell_blk (i:=2) X1.out rfl;have e3:=cell_blk (i:=3) X1.out rfl;clear hh1 hg1 hz1))
    |(refine wpList_store_blk rfl _ _ _ rfl _ _ rfl rfl _ _ S1.out.by_ (by exact linfoB) (by rfl) (by simp [Value.oneCell']) ?_;intro wv2 hh2 hg2 hz2;have S2:=hid (S1.out.putY hg2 hh2);clear hh2 hg2 hz2))
   obtain ⟨X,hX⟩:∃X,wv2=X:=⟨_,rfl⟩
   subst hX
   have S:=S2
   clear S0 S1 S2 X0 X1 e0 e1 e2 e3
   obtain ⟨X,rfl⟩:∃X,X=wv2:=⟨_,rfl⟩
   have z1:=cell_blk (i:=1) (x:= .int .i64 p) S.out.bk rfl
   have HBL:=hid S.out.bel
   go_wp2
   go_ret
   exact ⟨ret_bool (by simp),HBL.out⟩
 ·obtain ⟨i,rfl⟩:=Int.eq_ofNat_of_zero_le (show 0≤p by omega)
  by_cases hin:i<a.nums.length∧i<b.nums.length
  ·obtain ⟨hia,hib⟩:=hin
   have e:byI ⟨true,(i:Int),desc⟩ a b=if desc then-cmpN a.nums[i] b.nums[i] else cmpN a.nums[i] b.nums[i]:=by
    unfold byI byP
    dsimp only
    rw [if_pos rfl]
    rw [dif_pos (show 0≤(i:Int)∧(i:Int).toNat<a.nums.length∧(i:Int).toNat<b.nums.length from ⟨by omega,by omega,by omega⟩)]
    rfl
   rw [e]
   clear e hneg
   obtain ⟨A,ao',hao,hA⟩:=a4 (by omega)
   obtain ⟨B,bo',hbo,hB⟩:=b4 (by omega)
   obtain ⟨x0,x1,x2⟩:=hA i hia
   obtain ⟨y0,y1,y2⟩:=hB i hib
   have CN:=hid (fun W=>refCompare18_any a.nums[i] b.nums[i] (ha.ok _ (List.getElem_mem hia)) (hb.ok _ (List.getElem_mem hib)) W)
   have CM:=hid (fun W=>refCompare18_any b.nums[i] a.nums[i] (hb.ok _ (List.getElem_mem hib)) (ha.ok _ (List.getElem_mem hia)) W)
   rw [cmpN_neg] at CM
   generalize cmpN a.nums[i] b.nums[i]=c at*
   generalize a.nums[i].n=n1 at*;generalize a.nums[i].fl=f1 at*;generalize a.nums[i].f=g1 at*
   generalize b.nums[i].n=n2 at*;generalize b.nums[i].fl=f2 at*;generalize b.nums[i].f=g2 at*
   clear a4 b4 ha hb hA hB HA HB
   generalize a.nums.length=n0 at*;generalize b.nums.length=m0 at*
   obtain ⟨rfl,rfl,rfl⟩:=ea
   obtain ⟨rfl,rfl,rfl⟩:=eb
   subst hao hbo
   have hin:(i:Int)<(nna:Int):=by omega
   have him:(i:Int)<(nnb:Int):=by omega
   have hi0:¬(i:Int)<0:=by omega
   have hi00:(0:Int)≤(i:Int):=by omega
   cases desc
   ·go_enter Tryz.func77,Tryz.ntmps77
    go_upto_region 5 with fail
    obtain ⟨X,hX⟩:∃X,((w.alloc (.cells #[.bool true,.int .i64 (i:Int),.bool false] 131)).alloc (.cells #[.int .i64 sa,.int .i64 ta,.slice ka kna kca,.slice (some ⟨A,ao',none⟩) nna nca] 37)).alloc (.cells #[.int .i64 sb,.int .i64 tb,.slice kb knb kcb,.slice (some ⟨B,bo',none⟩) nnb ncb] 37)=X:=⟨_,rfl⟩
    have S:=hid (show BySt w #[.bool true,.int .i64 (i:Int),.bool false] #[.int .i64 sa,.int .i64 ta,.slice ka kna kca,.slice (some ⟨A,ao',none⟩) nna nca] #[.int .i64 sb,.int .i64 tb,.slice kb knb kcb,.slice (some ⟨B,bo',none⟩) nnb ncb] X from ⟨by rw [←hX];exact Bk,by rw [←hX];exact Bk,by rw [←hX];exact Bk,by rw [←hX];exact Gr⟩)
    rw [hX]
    clear hX
    have z0:=cell_blk (i:=0) (x:= .bool true) S.out.bk rfl;have z1:=cell_blk (i:=1) (x:= .int .i64 (i:Int)) S.out.bk rfl
    have z3:=cell_blk (i:=3) (x:= .slice (some ⟨A,ao',none⟩) nna nca) S.out.bx rfl;have z4:=cell_blk (i:=3) (x:= .slice (some ⟨B,bo',none⟩) nnb ncb) S.out.by_ rfl
    have p0:=World.plus_cell z0;have p1:=World.plus_cell z1;have p3:=World.plus_cell z3;have p4:=World.plus_cell z4
    have s0:=World.plus_cell (cell_step x0 S.out.bel);have u0:=World.plus_cell (cell_step y0 S.out.bel)
    have s1:=World.plus_cell (cell_step x1 S.out.bel);have u1:=World.plus_cell (cell_step y1 S.out.bel)
    have s2:=World.plus_cell (cell_step x2 S.out.bel);have u2:=World.plus_cell (cell_step y2 S.out.bel)
    go_upto_region 8 with fail
    refine wp_region_plus (by kernel_rfl) (by kernel_rfl) ?_
    repeat (first|go_big_quiet_skip|(go_big_quiet_want;go_big_quiet_op;first|go_big_quiet_on|go_big_quiet_call (((go_at_call 76;exact Calls.plus_of (CN.out _))))))
    refine wpQuiet_nil ?_
    rintro _ ⟨xq,rfl⟩
    have kB:=hid (S.out.bel.step (World.plus_below X xq))
    go_wp2
    go_ret
    exact ⟨ret_bool (by simp),kB.out⟩
   ·have S0:Hid (BySt w #[.bool true,.int .i64 (i:Int),.bool true] #[.int .i64 sa,.int .i64 ta,.slice ka kna kca,.slice (some ⟨A,ao',none⟩) nna nca] #[.int .i64 sb,.int .i64 tb,.slice kb knb kcb,.slice (some ⟨B,bo',none⟩) nnb ncb] ((((w.alloc (.cells #[.bool true,.int .i64 (i:Int),.bool true] 131)).alloc (.cells #[.int .i64 sa,.int .i64 ta,.slice ka kna kca,.slice (some ⟨A,ao',none⟩) nna nca] 37)).alloc (.cells #[.int .i64 sb,.int .i64 tb,.slice kb knb kcb,.slice (some ⟨B,bo',none⟩) nnb ncb] 37)).alloc (.cells #[.int .i64 sa,.int .i64 ta,.slice ka kna kca,.slice (some ⟨A,ao',none⟩) nna nca] 37))):=⟨Bk,Bk,Bk,Gr⟩
    have X0:Hid (((((w.alloc (.cells #[.bool true,.int .i64 (i:Int),.bool true] 131)).alloc (.cells #[.int .i64 sa,.int .i64 ta,.slice ka kna kca,.slice (some ⟨A,ao',none⟩) nna nca] 37)).alloc (.cells #[.int .i64 sb,.int .i64 tb,.slice kb knb kcb,.slice (some ⟨B,bo',none⟩) nnb ncb] 37)).alloc (.cells #[.int .i64 sa,.int .i64 ta,.slice ka kna kca,.slice (some ⟨A,ao',none⟩) nna nca] 37)).heap[w.heap.size+1+1+1]? =some (.cells #[.int .i64 sa,.int .i64 ta,.slice ka kna kca,.slice (some ⟨A,ao',none⟩) nna nca] 37 (0,0))):=by unfold Hid;exact heap_at (by simp)
    go_enter Tryz.func77,Tryz.ntmps77
    go_upto_region 5 with (first
     |(go_loud (refine wpList_store_blk rfl _ _ _ rfl _ _ rfl rfl _ _ S0.out.bx (by exact linfoB) (by rfl) (by simp [Value.oneCell']) ?_;intro wv1 hh1 hg1 hz1;have S1:=hid (S0.out.putX hg1 hh1);have X1:=hid ((hg1.block _ (lt_of_block X0.out) (fun e=>by have:=Option.some.inj e;omega)).trans X0.out);have e0:=cell_blk (i:=0) X1.out rfl;have e1:=cell_blk (i:=1) X1.out rfl;have e2:=cell_blk (i:=2) X1.out rfl;have e3:=cell_blk (i:=3) X1.out rfl;clear hh1 hg1 hz1))
     |(refine wpList_store_blk rfl _ _ _ rfl _ _ rfl rfl _ _ S1.out.by_ (by exact linfoB) (by rfl) (by simp [Value.oneCell']) ?_;intro wv2 hh2 hg2 hz2;have S2:=hid (S1.out.putY hg2 hh2);clear hh2 hg2 hz2))
    obtain ⟨X,hX⟩:∃X,wv2=X:=⟨_,rfl⟩
    subst hX
    have S:=S2
    clear S0 S1 S2 X0 X1 e0 e1 e2 e3
    obtain ⟨X,rfl⟩:∃X,X=wv2:=⟨_,rfl⟩
    have z0:=cell_blk (i:=0) (x:= .bool true) S.out.bk rfl;have z1:=cell_blk (i:=1) (x:= .int .i64 (i:Int)) S.out.bk rfl
    have z3:=cell_blk (i:=3) (x:= .slice (some ⟨B,bo',none⟩) nnb ncb) S.out.bx rfl;have z4:=cell_blk (i:=3) (x:= .slice (some ⟨A,ao',none⟩) nna nca) S.out.by_ rfl
    have p0:=World.plus_cell z0;have p1:=World.plus_cell z1;have p3:=World.plus_cell z3;have p4:=World.plus_cell z4
    have s0:=World.plus_cell (cell_step x0 S.out.bel);have u0:=World.plus_cell (cell_step y0 S.out.bel)
    have s1:=World.plus_cell (cell_step x1 S.out.bel);have u1:=World.plus_cell (cell_step y1 S.out.bel)
    have s2:=World.plus_cell (cell_step x2 S.out.bel);have u2:=World.plus_cell (cell_step y2 S.out.bel)
    go_upto_region 8 with fail
    refine wp_region_plus (by kernel_rfl) (by kernel_rfl) ?_
    repeat (first|go_big_quiet_skip|(go_big_quiet_want;go_big_quiet_op;first|go_big_quiet_on|go_big_quiet_call (((go_at_call 76;exact Calls.plus_of (CM.out _))))))
    refine wpQuiet_nil ?_
    rintro _ ⟨xq,rfl⟩
    have kB:=hid (S.out.bel.step (World.plus_below X xq))
    go_wp2
    go_ret
    exact ⟨ret_bool (by simp),kB.out⟩
  ·have e:byI ⟨true,(i:Int),desc⟩ a b=0:=by
    unfold byI byP
    dsimp only
    rw [if_pos rfl]
    rw [dif_neg (by omega)]
    split<;>rfl
   rw [e]
   clear a4 b4 e ha hb hneg HA HB
   generalize a.nums.length=n0 at*;generalize b.nums.length=m0 at*
   obtain ⟨rfl,rfl,rfl⟩:=ea
   obtain ⟨rfl,rfl,rfl⟩:=eb
   have hi0:¬(i:Int)<0:=by omega
   have hi00:(0:Int)≤(i:Int):=by omega
   have hcase:((i:Int)<(nna:Int)∧¬(i:Int)<(nnb:Int))∨((i:Int)<(nnb:Int)∧¬(i:Int)<(nna:Int))∨(¬(i:Int)<(nna:Int)∧¬(i:Int)<(nnb:Int)):=by omega
   clear hin
   rcases hcase with ⟨hc1,hc2⟩|⟨hc1,hc2⟩|⟨hc1,hc2⟩
   all_goals
    cases desc
    ·go_enter Tryz.func77,Tryz.ntmps77
     go_upto_region 5 with fail
     obtain ⟨X,hX⟩:∃X,((w.alloc (.cells #[.bool true,.int .i64 (i:Int),.bool false] 131)).alloc (.cells #[.int .i64 sa,.int .i64 ta,.slice ka kna kca,.slice na nna nca] 37)).alloc (.cells #[.int .i64 sb,.int .i64 tb,.slice kb knb kcb,.slice nb nnb ncb] 37)=X:=⟨_,rfl⟩
     have S:=hid (show BySt w #[.bool true,.int .i64 (i:Int),.bool false] #[.int .i64 sa,.int .i64 ta,.slice ka kna kca,.slice na nna nca] #[.int .i64 sb,.int .i64 tb,.slice kb knb kcb,.slice nb nnb ncb] X from ⟨by rw [←hX];exact Bk,by rw [←hX];exact Bk,by rw [←hX];exact Bk,by rw [←hX];exact Gr⟩)
     rw [hX]
     clear hX
     have z0:=cell_blk (i:=0) (x:= .bool true) S.out.bk rfl;have z1:=cell_blk (i:=1) (x:= .int .i64 (i:Int)) S.out.bk rfl
     have z3:=cell_blk (i:=3) (x:= .slice na nna nca) S.out.bx rfl;have z4:=cell_blk (i:=3) (x:= .slice nb nnb ncb) S.out.by_ rfl
     have p0:=World.plus_cell z0;have p1:=World.plus_cell z1;have p3:=World.plus_cell z3;have p4:=World.plus_cell z4
     go_upto_region 8 with fail
     refine wp_region_plus (by kernel_rfl) (by kernel_rfl) ?_
     repeat (first|go_big_quiet_skip|(go_big_quiet_want;go_big_quiet_op;first|go_big_quiet_on|go_big_quiet_call ((fail))))
     refine wpQuiet_nil ?_
     rintro _ ⟨xq,rfl⟩
     have kB:=hid (S.out.bel.step (World.plus_below X xq))
     go_wp2
     go_ret
     exact ⟨ret_bool (by simp),kB.out⟩
    ·have S0:Hid (BySt w #[.bool true,.int .i64 (i:Int),.bool true] #[.int .i64 sa,.int .i64 ta,.slice ka kna kca,.slice na nna nca] #[.int .i64 sb,.int .i64 tb,.slice kb knb kcb,.slice nb nnb ncb] ((((w.alloc (.cells #[.bool true,.int .i64 (i:Int),.bool true] 131)).alloc (.cells #[.int .i64 sa,.int .i64 ta,.slice ka kna kca,.slice na nna nca] 37)).alloc (.cells #[.int .i64 sb,.int .i64 tb,.slice kb knb kcb,.slice nb nnb ncb] 37)).alloc (.cells #[.int .i64 sa,.int .i64 ta,.slice ka kna kca,.slice na nna nca] 37))):=⟨Bk,Bk,Bk,Gr⟩
     have X0:Hid (((((w.alloc (.cells #[.bool true,.int .i64 (i:Int),.bool true] 131)).alloc (.cells #[.int .i64 sa,.int .i64 ta,.slice ka kna kca,.slice na nna nca] 37)).alloc (.cells #[.int .i64 sb,.int .i64 tb,.slice kb knb kcb,.slice nb nnb ncb] 37)).alloc (.cells #[.int .i64 sa,.int .i64 ta,.slice ka kna kca,.slice na nna nca] 37)).heap[w.heap.size+1+1+1]? =some (.cells #[.int .i64 sa,.int .i64 ta,.slice ka kna kca,.slice na nna nca] 37 (0,0))):=by unfold Hid;exact heap_at (by simp)
     go_enter Tryz.func77,Tryz.ntmps77
     go_upto_region 5 with (first
      |(go_loud (refine wpList_store_blk rfl _ _ _ rfl _ _ rfl rfl _ _ S0.out.bx (by exact linfoB) (by rfl) (by simp [Value.oneCell']) ?_;intro wv1 hh1 hg1 hz1;have S1:=hid (S0.out.putX hg1 hh1);have X1:=hid ((hg1.block _ (lt_of_block X0.out) (fun e=>by have:=Option.some.inj e;omega)).trans X0.out);have e0:=cell_blk (i:=0) X1.out rfl;have e1:=cell_blk (i:=1) X1.out rfl;have e2:=cell_blk (i:=2) X1.out rfl;have e3:=cell_blk (i:=3) X1.out rfl;clear hh1 hg1 hz1))
      |(refine wpList_store_blk rfl _ _ _ rfl _ _ rfl rfl _ _ S1.out.by_ (by exact linfoB) (by rfl) (by simp [Value.oneCell']) ?_;intro wv2 hh2 hg2 hz2;have S2:=hid (S1.out.putY hg2 hh2);clear hh2 hg2 hz2))
     obtain ⟨X,hX⟩:∃X,wv2=X:=⟨_,rfl⟩
     subst hX
     have S:=S2
     clear S0 S1 S2 X0 X1 e0 e1 e2 e3
     obtain ⟨X,rfl⟩:∃X,X=wv2:=⟨_,rfl⟩
     have z0:=cell_blk (i:=0) (x:= .bool true) S.out.bk rfl;have z1:=cell_blk (i:=1) (x:= .int .i64 (i:Int)) S.out.bk rfl
     have z3:=cell_blk (i:=3) (x:= .slice nb nnb ncb) S.out.bx rfl;have z4:=cell_blk (i:=3) (x:= .slice na nna nca) S.out.by_ rfl
     have p0:=World.plus_cell z0;have p1:=World.plus_cell z1;have p3:=World.plus_cell z3;have p4:=World.plus_cell z4
     go_upto_region 8 with fail
     refine wp_region_plus (by kernel_rfl) (by kernel_rfl) ?_
     repeat (first|go_big_quiet_skip|(go_big_quiet_want;go_big_quiet_op;first|go_big_quiet_on|go_big_quiet_call ((fail))))
     refine wpQuiet_nil ?_
     rintro _ ⟨xq,rfl⟩
     have kB:=hid (S.out.bel.step (World.plus_below X xq))
     go_wp2
     go_ret
     exact ⟨ret_bool (by simp),kB.out⟩
set_option maxHeartbeats 8000000 in
theorem refBy_key (p:Int) (desc:Bool) (va vb:LnV) (a b:LineD) (w:World) (ha:LnIs w va a) (hb:LnIs w vb b) (ta':KeySz a) (tb':KeySz b):
  Calls Tryz.prog 77 #[.agg #[.bool false,.int .i64 p,.bool desc],.agg va.cells,.agg vb.cells] w fun e w'=>e= .returned (.bool (decide (byI ⟨false,p,desc⟩ a b<0)))∧Below w.heap.size w w':=by
 obtain ⟨ao,ac,ea,a1,a2,a3,a4⟩:=ha.key.parts
 obtain ⟨bo,bc,eb,b1,b2,b3,b4⟩:=hb.key.parts
 have HA:=hid ha;have HB:=hid hb
 obtain ⟨sa,ta,ka,kna,kca,na,nna,nca⟩:=va
 obtain ⟨sb,tb,kb,knb,kcb,nb,nnb,ncb⟩:=vb
 dsimp only [LnV.cells] at*
 simp only [Value.slice.injEq] at ea eb
 unfold maxLen at a2 b2
 have hneg:=byI_neg ⟨false,p,desc⟩ a b
 by_cases hp:p<0
 ·have e:byI ⟨false,p,desc⟩ a b=0:=by
   unfold byI byP
   dsimp only
   rw [if_neg (show ¬(false=true) by decide)]
   rw [dif_neg (by omega)]
   split<;>rfl
  rw [e]
  clear a4 b4 e ha hb hneg ea eb
  cases desc
  ·go_enter Tryz.func77,Tryz.ntmps77
   go_upto_region 5 with fail
   obtain ⟨X,hX⟩:∃X,((w.alloc (.cells #[.bool false,.int .i64 p,.bool false] 131)).alloc (.cells #[.int .i64 sa,.int .i64 ta,.slice ka kna kca,.slice na nna nca] 37)).alloc (.cells #[.int .i64 sb,.int .i64 tb,.slice kb knb kcb,.slice nb nnb ncb] 37)=X:=⟨_,rfl⟩
   have S:=hid (show BySt w #[.bool false,.int .i64 p,.bool false] #[.int .i64 sa,.int .i64 ta,.slice ka kna kca,.slice na nna nca] #[.int .i64 sb,.int .i64 tb,.slice kb knb kcb,.slice nb nnb ncb] X from ⟨by rw [←hX];exact Bk,by rw [←hX];exact Bk,by rw [←hX];exact Bk,by rw [←hX];exact Gr⟩)
   rw [hX]
   clear hX
   have z1:=cell_blk (i:=1) (x:= .int .i64 p) S.out.bk rfl
   have HBL:=hid S.out.bel
   go_wp2
   go_ret
   exact ⟨ret_bool (by simp),HBL.out⟩
  ·have S0:Hid (BySt w #[.bool false,.int .i64 p,.bool true] #[.int .i64 sa,.int .i64 ta,.slice ka kna kca,.slice na nna nca] #[.int .i64 sb,.int .i64 tb,.slice kb knb kcb,.slice nb nnb ncb] ((((w.alloc (.cells #[.bool false,.int .i64 p,.bool true] 131)).alloc (.cells #[.int .i64 sa,.int .i64 ta,.slice ka kna kca,.slice na nna nca] 37)).alloc (.cells #[.int .i64 sb,.int .i64 tb,.slice kb knb kcb,.slice nb nnb ncb] 37)).alloc (.cells #[.int .i64 sa,.int .i64 ta,.slice ka kna kca,.slice na nna nca] 37))):=⟨Bk,Bk,Bk,Gr⟩
   have X0:Hid (((((w.alloc (.cells #[.bool false,.int .i64 p,.bool true] 131)).alloc (.cells #[.int .i64 sa,.int .i64 ta,.slice ka kna kca,.slice na nna nca] 37)).alloc (.cells #[.int .i64 sb,.int .i64 tb,.slice kb knb kcb,.slice nb nnb ncb] 37)).alloc (.cells #[.int .i64 sa,.int .i64 ta,.slice ka kna kca,.slice na nna nca] 37)).heap[w.heap.size+1+1+1]? =some (.cells #[.int .i64 sa,.int .i64 ta,.slice ka kna kca,.slice na nna nca] 37 (0,0))):=by unfold Hid;exact heap_at (by simp)
   go_enter Tryz.func77,Tryz.ntmps77
   go_upto_region 5 with (first
    |(go_loud (refine wpList_store_blk rfl _ _ _ rfl _ _ rfl rfl _ _ S0.out.bx (by exact linfoB) (by rfl) (by simp [Value.oneCell']) ?_;intro wv1 hh1 hg1 hz1;have S1:=hid (S0.out.putX hg1 hh1);have X1:=hid ((hg1.block _ (lt_of_block X0.out) (fun e=>by have:=Option.some.inj e;omega)).trans X0.out);have e0:=cell_blk (i:=0) X1.out rfl;have e1:=cell_blk (i:=1) X1.out rfl;have e2:=cell_blk (i:=2) X1.out rfl;have e3:=cell_blk (i:=3) X1.out rfl;clear hh1 hg1 hz1))
    |(refine wpList_store_blk rfl _ _ _ rfl _ _ rfl rfl _ _ S1.out.by_ (by exact linfoB) (by rfl) (by simp [Value.oneCell']) ?_;intro wv2 hh2 hg2 hz2;have S2:=hid (S1.out.putY hg2 hh2);clear hh2 hg2 hz2))
   obtain ⟨X,hX⟩:∃X,wv2=X:=⟨_,rfl⟩
   subst hX
   have S:=S2
   clear S0 S1 S2 X0 X1 e0 e1 e2 e3
   obtain ⟨X,rfl⟩:∃X,X=wv2:=⟨_,rfl⟩
   have z1:=cell_blk (i:=1) (x:= .int .i64 p) S.out.bk rfl
   have HBL:=hid S.out.bel
   go_wp2
   go_ret
   exact ⟨ret_bool (by simp),HBL.out⟩
 ·obtain ⟨i,rfl⟩:=Int.eq_ofNat_of_zero_le (show 0≤p by omega)
  by_cases hin:i<a.key.length∧i<b.key.length
  ·obtain ⟨hia,hib⟩:=hin
   have e:byI ⟨false,(i:Int),desc⟩ a b=if desc then-cmpV a.key[i] b.key[i] else cmpV a.key[i] b.key[i]:=by
    unfold byI byP
    dsimp only
    rw [if_neg (show ¬(false=true) by decide)]
    rw [dif_pos (show 0≤(i:Int)∧(i:Int).toNat<a.key.length∧(i:Int).toNat<b.key.length from ⟨by omega,by omega,by omega⟩)]
    rfl
   rw [e]
   clear e hneg
   obtain ⟨A,ao',hao,hA⟩:=a4 (by omega)
   obtain ⟨B,bo',hbo,hB⟩:=b4 (by omega)
   obtain ⟨x0,x1⟩:=hA i hia
   obtain ⟨y0,y1⟩:=hB i hib
   have hza:=ta' _ (List.getElem_mem hia);have hzb:=tb' _ (List.getElem_mem hib)
   have hcn:=cmpV_neg a.key[i] b.key[i]
   generalize a.key[i]=ea' at*;generalize b.key[i]=eb' at*
   have SA:=hid (vals_one_sl w A (ao'+i*2) (ac-i) ea' (by omega) (by unfold maxLen;omega) x0 x1)
   have SB:=hid (vals_one_sl w B (bo'+i*2) (bc-i) eb' (by omega) (by unfold maxLen;omega) y0 y1)
   have CN:=hid (fun W (hW:Below w.heap.size w W)=>refLess_any _ _ [ea'] [eb'] W (SA.out.below hW) (SB.out.below hW) (fun v hv=>by rw [List.mem_singleton] at hv;subst hv;exact hza) (fun v hv=>by rw [List.mem_singleton] at hv;subst hv;exact hzb))
   have CM:=hid (fun W (hW:Below w.heap.size w W)=>refLess_any _ _ [eb'] [ea'] W (SB.out.below hW) (SA.out.below hW) (fun v hv=>by rw [List.mem_singleton] at hv;subst hv;exact hzb) (fun v hv=>by rw [List.mem_singleton] at hv;subst hv;exact hza))
   rw [lessL_cmp] at CN CM
   rw [hcn] at CM
   generalize cmpV ea' eb'=c at*
   have hw1:IntKind.i64.wrap ((i:Int)+1)=(i:Int)+1:=IntWalk.i64_in _ (by omega)
   have ht1:((i:Int)+1).toNat=i+1:=by omega
   clear hcn SA SB
   clear a4 b4 ha hb hA hB HA HB
   generalize a.key.length=n0 at*;generalize b.key.length=m0 at*
   obtain ⟨rfl,rfl,rfl⟩:=ea
   obtain ⟨rfl,rfl,rfl⟩:=eb
   subst hao hbo
   have hin:(i:Int)<(kna:Int):=by omega
   have him:(i:Int)<(knb:Int):=by omega
   have hi0:¬(i:Int)<0:=by omega
   have hi00:(0:Int)≤(i:Int):=by omega
   cases desc
   ·go_enter Tryz.func77,Tryz.ntmps77
    go_upto_region 5 with fail
    obtain ⟨X,hX⟩:∃X,((w.alloc (.cells #[.bool false,.int .i64 (i:Int),.bool false] 131)).alloc (.cells #[.int .i64 sa,.int .i64 ta,.slice (some ⟨A,ao',none⟩) kna kca,.slice na nna nca] 37)).alloc (.cells #[.int .i64 sb,.int .i64 tb,.slice (some ⟨B,bo',none⟩) knb kcb,.slice nb nnb ncb] 37)=X:=⟨_,rfl⟩
    have S:=hid (show BySt w #[.bool false,.int .i64 (i:Int),.bool false] #[.int .i64 sa,.int .i64 ta,.slice (some ⟨A,ao',none⟩) kna kca,.slice na nna nca] #[.int .i64 sb,.int .i64 tb,.slice (some ⟨B,bo',none⟩) knb kcb,.slice nb nnb ncb] X from ⟨by rw [←hX];exact Bk,by rw [←hX];exact Bk,by rw [←hX];exact Bk,by rw [←hX];exact Gr⟩)
    rw [hX]
    clear hX
    have z0:=cell_blk (i:=0) (x:= .bool false) S.out.bk rfl;have z1:=cell_blk (i:=1) (x:= .int .i64 (i:Int)) S.out.bk rfl
    have z3:=cell_blk (i:=2) (x:= .slice (some ⟨A,ao',none⟩) kna kca) S.out.bx rfl;have z4:=cell_blk (i:=2) (x:= .slice (some ⟨B,bo',none⟩) knb kcb) S.out.by_ rfl
    have p0:=World.plus_cell z0;have p1:=World.plus_cell z1;have p3:=World.plus_cell z3;have p4:=World.plus_cell z4
    have s0:=World.plus_cell (cell_step x0 S.out.bel);have u0:=World.plus_cell (cell_step y0 S.out.bel)
    have s1:=World.plus_cell (cell_step x1 S.out.bel);have u1:=World.plus_cell (cell_step y1 S.out.bel)
    go_upto_region 9 with fail
    have HBL:=hid S.out.bel
    refine wp_region_plus (by kernel_rfl) (by kernel_rfl) ?_
    repeat (first|go_big_quiet_skip|(go_big_quiet_want;go_big_quiet_op;first|go_big_quiet_on|go_big_quiet_call (((go_at_call 148;exact Calls.plus_of (CN.out _ (HBL.out.step (World.plus_below _ _))))))))
    refine wpQuiet_nil ?_
    rintro _ ⟨xq,rfl⟩
    have kB:=hid (S.out.bel.step (World.plus_below X xq))
    go_wp2
    go_ret
    exact ⟨ret_bool (by simp),kB.out⟩
   ·have S0:Hid (BySt w #[.bool false,.int .i64 (i:Int),.bool true] #[.int .i64 sa,.int .i64 ta,.slice (some ⟨A,ao',none⟩) kna kca,.slice na nna nca] #[.int .i64 sb,.int .i64 tb,.slice (some ⟨B,bo',none⟩) knb kcb,.slice nb nnb ncb] ((((w.alloc (.cells #[.bool false,.int .i64 (i:Int),.bool true] 131)).alloc (.cells #[.int .i64 sa,.int .i64 ta,.slice (some ⟨A,ao',none⟩) kna kca,.slice na nna nca] 37)).alloc (.cells #[.int .i64 sb,.int .i64 tb,.slice (some ⟨B,bo',none⟩) knb kcb,.slice nb nnb ncb] 37)).alloc (.cells #[.int .i64 sa,.int .i64 ta,.slice (some ⟨A,ao',none⟩) kna kca,.slice na nna nca] 37))):=⟨Bk,Bk,Bk,Gr⟩
    have X0:Hid (((((w.alloc (.cells #[.bool false,.int .i64 (i:Int),.bool true] 131)).alloc (.cells #[.int .i64 sa,.int .i64 ta,.slice (some ⟨A,ao',none⟩) kna kca,.slice na nna nca] 37)).alloc (.cells #[.int .i64 sb,.int .i64 tb,.slice (some ⟨B,bo',none⟩) knb kcb,.slice nb nnb ncb] 37)).alloc (.cells #[.int .i64 sa,.int .i64 ta,.slice (some ⟨A,ao',none⟩) kna kca,.slice na nna nca] 37)).heap[w.heap.size+1+1+1]? =some (.cells #[.int .i64 sa,.int .i64 ta,.slice (some ⟨A,ao',none⟩) kna kca,.slice na nna nca] 37 (0,0))):=by unfold Hid;exact heap_at (by simp)
    go_enter Tryz.func77,Tryz.ntmps77
    go_upto_region 5 with (first
     |(go_loud (refine wpList_store_blk rfl _ _ _ rfl _ _ rfl rfl _ _ S0.out.bx (by exact linfoB) (by rfl) (by simp [Value.oneCell']) ?_;intro wv1 hh1 hg1 hz1;have S1:=hid (S0.out.putX hg1 hh1);have X1:=hid ((hg1.block _ (lt_of_block X0.out) (fun e=>by have:=Option.some.inj e;omega)).trans X0.out);have e0:=cell_blk (i:=0) X1.out rfl;have e1:=cell_blk (i:=1) X1.out rfl;have e2:=cell_blk (i:=2) X1.out rfl;have e3:=cell_blk (i:=3) X1.out rfl;clear hh1 hg1 hz1))
     |(refine wpList_store_blk rfl _ _ _ rfl _ _ rfl rfl _ _ S1.out.by_ (by exact linfoB) (by rfl) (by simp [Value.oneCell']) ?_;intro wv2 hh2 hg2 hz2;have S2:=hid (S1.out.putY hg2 hh2);clear hh2 hg2 hz2))
    obtain ⟨X,hX⟩:∃X,wv2=X:=⟨_,rfl⟩
    subst hX
    have S:=S2
    clear S0 S1 S2 X0 X1 e0 e1 e2 e3
    obtain ⟨X,rfl⟩:∃X,X=wv2:=⟨_,rfl⟩
    have z0:=cell_blk (i:=0) (x:= .bool false) S.out.bk rfl;have z1:=cell_blk (i:=1) (x:= .int .i64 (i:Int)) S.out.bk rfl
    have z3:=cell_blk (i:=2) (x:= .slice (some ⟨B,bo',none⟩) knb kcb) S.out.bx rfl;have z4:=cell_blk (i:=2) (x:= .slice (some ⟨A,ao',none⟩) kna kca) S.out.by_ rfl
    have p0:=World.plus_cell z0;have p1:=World.plus_cell z1;have p3:=World.plus_cell z3;have p4:=World.plus_cell z4
    have s0:=World.plus_cell (cell_step x0 S.out.bel);have u0:=World.plus_cell (cell_step y0 S.out.bel)
    have s1:=World.plus_cell (cell_step x1 S.out.bel);have u1:=World.plus_cell (cell_step y1 S.out.bel)
    go_upto_region 9 with fail
    have HBL:=hid S.out.bel
    refine wp_region_plus (by kernel_rfl) (by kernel_rfl) ?_
    repeat (first|go_big_quiet_skip|(go_big_quiet_want;go_big_quiet_op;first|go_big_quiet_on|go_big_quiet_call (((go_at_call 148;exact Calls.plus_of (CM.out _ (HBL.out.step (World.plus_below _ _))))))))
    refine wpQuiet_nil ?_
    rintro _ ⟨xq,rfl⟩
    have kB:=hid (S.out.bel.step (World.plus_below X xq))
    go_wp2
    go_ret
    exact ⟨ret_bool (by simp),kB.out⟩
  ·have e:byI ⟨false,(i:Int),desc⟩ a b=0:=by
    unfold byI byP
    dsimp only
    rw [if_neg (show ¬(false=true) by decide)]
    rw [dif_neg (by omega)]
    split<;>rfl
   rw [e]
   clear a4 b4 e ha hb hneg HA HB
   generalize a.key.length=n0 at*;generalize b.key.length=m0 at*
   obtain ⟨rfl,rfl,rfl⟩:=ea
   obtain ⟨rfl,rfl,rfl⟩:=eb
   have hi0:¬(i:Int)<0:=by omega
   have hi00:(0:Int)≤(i:Int):=by omega
   have hcase:((i:Int)<(kna:Int)∧¬(i:Int)<(knb:Int))∨((i:Int)<(knb:Int)∧¬(i:Int)<(kna:Int))∨(¬(i:Int)<(kna:Int)∧¬(i:Int)<(knb:Int)):=by omega
   clear hin
   rcases hcase with ⟨hc1,hc2⟩|⟨hc1,hc2⟩|⟨hc1,hc2⟩
   all_goals
    cases desc
    ·go_enter Tryz.func77,Tryz.ntmps77
     go_upto_region 5 with fail
     obtain ⟨X,hX⟩:∃X,((w.alloc (.cells #[.bool false,.int .i64 (i:Int),.bool false] 131)).alloc (.cells #[.int .i64 sa,.int .i64 ta,.slice ka kna kca,.slice na nna nca] 37)).alloc (.cells #[.int .i64 sb,.int .i64 tb,.slice kb knb kcb,.slice nb nnb ncb] 37)=X:=⟨_,rfl⟩
     have S:=hid (show BySt w #[.bool false,.int .i64 (i:Int),.bool false] #[.int .i64 sa,.int .i64 ta,.slice ka kna kca,.slice na nna nca] #[.int .i64 sb,.int .i64 tb,.slice kb knb kcb,.slice nb nnb ncb] X from ⟨by rw [←hX];exact Bk,by rw [←hX];exact Bk,by rw [←hX];exact Bk,by rw [←hX];exact Gr⟩)
     rw [hX]
     clear hX
     have z0:=cell_blk (i:=0) (x:= .bool false) S.out.bk rfl;have z1:=cell_blk (i:=1) (x:= .int .i64 (i:Int)) S.out.bk rfl
     have z3:=cell_blk (i:=2) (x:= .slice ka kna kca) S.out.bx rfl;have z4:=cell_blk (i:=2) (x:= .slice kb knb kcb) S.out.by_ rfl
     have p0:=World.plus_cell z0;have p1:=World.plus_cell z1;have p3:=World.plus_cell z3;have p4:=World.plus_cell z4
     go_upto_region 9 with fail
     refine wp_region_plus (by kernel_rfl) (by kernel_rfl) ?_
     repeat (first|go_big_quiet_skip|(go_big_quiet_want;go_big_quiet_op;first|go_big_quiet_on|go_big_quiet_call ((fail))))
     refine wpQuiet_nil ?_
     rintro _ ⟨xq,rfl⟩
     have kB:=hid (S.out.bel.step (World.plus_below X xq))
     go_wp2
     go_ret
     exact ⟨ret_bool (by simp),kB.out⟩
    ·have S0:Hid (BySt w #[.bool false,.int .i64 (i:Int),.bool true] #[.int .i64 sa,.int .i64 ta,.slice ka kna kca,.slice na nna nca] #[.int .i64 sb,.int .i64 tb,.slice kb knb kcb,.slice nb nnb ncb] ((((w.alloc (.cells #[.bool false,.int .i64 (i:Int),.bool true] 131)).alloc (.cells #[.int .i64 sa,.int .i64 ta,.slice ka kna kca,.slice na nna nca] 37)).alloc (.cells #[.int .i64 sb,.int .i64 tb,.slice kb knb kcb,.slice nb nnb ncb] 37)).alloc (.cells #[.int .i64 sa,.int .i64 ta,.slice ka kna kca,.slice na nna nca] 37))):=⟨Bk,Bk,Bk,Gr⟩
     have X0:Hid (((((w.alloc (.cells #[.bool false,.int .i64 (i:Int),.bool true] 131)).alloc (.cells #[.int .i64 sa,.int .i64 ta,.slice ka kna kca,.slice na nna nca] 37)).alloc (.cells #[.int .i64 sb,.int .i64 tb,.slice kb knb kcb,.slice nb nnb ncb] 37)).alloc (.cells #[.int .i64 sa,.int .i64 ta,.slice ka kna kca,.slice na nna nca] 37)).heap[w.heap.size+1+1+1]? =some (.cells #[.int .i64 sa,.int .i64 ta,.slice ka kna kca,.slice na nna nca] 37 (0,0))):=by unfold Hid;exact heap_at (by simp)
     go_enter Tryz.func77,Tryz.ntmps77
     go_upto_region 5 with (first
      |(go_loud (refine wpList_store_blk rfl _ _ _ rfl _ _ rfl rfl _ _ S0.out.bx (by exact linfoB) (by rfl) (by simp [Value.oneCell']) ?_;intro wv1 hh1 hg1 hz1;have S1:=hid (S0.out.putX hg1 hh1);have X1:=hid ((hg1.block _ (lt_of_block X0.out) (fun e=>by have:=Option.some.inj e;omega)).trans X0.out);have e0:=cell_blk (i:=0) X1.out rfl;have e1:=cell_blk (i:=1) X1.out rfl;have e2:=cell_blk (i:=2) X1.out rfl;have e3:=cell_blk (i:=3) X1.out rfl;clear hh1 hg1 hz1))
      |(refine wpList_store_blk rfl _ _ _ rfl _ _ rfl rfl _ _ S1.out.by_ (by exact linfoB) (by rfl) (by simp [Value.oneCell']) ?_;intro wv2 hh2 hg2 hz2;have S2:=hid (S1.out.putY hg2 hh2);clear hh2 hg2 hz2))
     obtain ⟨X,hX⟩:∃X,wv2=X:=⟨_,rfl⟩
     subst hX
     have S:=S2
     clear S0 S1 S2 X0 X1 e0 e1 e2 e3
     obtain ⟨X,rfl⟩:∃X,X=wv2:=⟨_,rfl⟩
     have z0:=cell_blk (i:=0) (x:= .bool false) S.out.bk rfl;have z1:=cell_blk (i:=1) (x:= .int .i64 (i:Int)) S.out.bk rfl
     have z3:=cell_blk (i:=2) (x:= .slice kb knb kcb) S.out.bx rfl;have z4:=cell_blk (i:=2) (x:= .slice ka kna kca) S.out.by_ rfl
     have p0:=World.plus_cell z0;have p1:=World.plus_cell z1;have p3:=World.plus_cell z3;have p4:=World.plus_cell z4
     go_upto_region 9 with fail
     refine wp_region_plus (by kernel_rfl) (by kernel_rfl) ?_
     repeat (first|go_big_quiet_skip|(go_big_quiet_want;go_big_quiet_op;first|go_big_quiet_on|go_big_quiet_call ((fail))))
     refine wpQuiet_nil ?_
     rintro _ ⟨xq,rfl⟩
     have kB:=hid (S.out.bel.step (World.plus_below X xq))
     go_wp2
     go_ret
     exact ⟨ret_bool (by simp),kB.out⟩
theorem refBy_any (k:KeyD) (va vb:LnV) (a b:LineD) (w:World) (ha:LnIs w va a) (hb:LnIs w vb b) (ta:KeySz a) (tb:KeySz b):
  Calls Tryz.prog 77 #[.agg #[.bool k.agg,.int .i64 k.pos,.bool k.desc],.agg va.cells,.agg vb.cells] w fun e w'=>e= .returned (.bool (decide (byI k a b<0)))∧Below w.heap.size w w':=by
 obtain ⟨g,p,d⟩:=k
 cases g
 ·exact refBy_key p d va vb a b w ha hb ta tb
 ·exact refBy_agg p d va vb a b w ha hb
set_option maxHeartbeats 8000000 in
theorem refAhead18_any (q:QryV) (va vb:LnV) (ks:List KeyD) (a b:LineD) (w:World) (hks:KeysSl w q.ord ks) (hk6:ks.length≤1000000) (ha:LnIs w va a) (hb:LnIs w vb b) (ta:KeySz a) (tb:KeySz b):
  Calls Tryz.prog 36 #[.agg q.cells,.agg va.cells,.agg vb.cells] w fun e w'=>e= .returned (.bool (decide (cmpK ks a b<0)))∧Below w.heap.size w w':=by
 have HXY:=hid (fun k W (h:Below w.heap.size w W)=>refBy_any k va vb a b W (ha.below h) (hb.below h) ta tb)
 have HYX:=hid (fun k W (h:Below w.heap.size w W)=>refBy_any k vb va b a W (hb.below h) (ha.below h) tb ta)
 have HNG:=hid (fun k=>byI_neg k a b)
 obtain ⟨ko,kcp,eo,k1,k2,k3,hK⟩:=hks.parts
 have HK:=hid hK
 have HAT:=hid (fun (k:Nat) (hk:k<ks.length) h1 h2=>cmpK_at (ks:=ks) (a:=a) (b:=b) (k:=k) hk h1 h2)
 have HZ:=hid (cmpK_zero (ks:=ks) (a:=a) (b:=b))
 generalize cmpK ks a b=R at*
 obtain ⟨N,hN⟩:∃N,ks.length=N:=⟨_,rfl⟩
 have HN:=hid hN
 rw [hN] at k1 hk6 eo
 unfold maxLen at k2
 obtain ⟨aa,LA,ac,ba,LB,bc,mode,sa',LS,sc',every,kind,name,wa,wn,wk,fr,till,la,ln,lc,ha',LH,hc,oa,LO,oc,limit⟩:=q
 obtain ⟨sa,ta',ka,kna,kca,na,nna,nca⟩:=va
 obtain ⟨sb,tb',kb,knb,kcb,nb,nnb,ncb⟩:=vb
 dsimp only [LnV.cells,QryV.cells,QryV.ord] at*
 simp only [Value.slice.injEq] at eo
 obtain ⟨rfl,rfl,rfl⟩:=eo
 clear ha hb ta tb hks hK hN k3
 go_enter Tryz.func36,Tryz.ntmps36
 go_wp2_with fail
 go_loopw [7] (fun i wr=>∃j:Nat,j≤LO∧i= .int .i64 (j:Int)∧(wr.heap[w.heap.size]? =some (.cells #[.slice aa LA ac,.slice ba LB bc,.int .i64 mode,.slice sa' LS sc',.int .i64 every,.int .i64 kind,.string name,.slice wa wn wk,.int .i64 fr,.int .i64 till,.slice la ln lc,.slice ha' LH hc,.slice oa LO oc,.int .i64 limit] 33 (0,0))∧wr.heap[w.heap.size+1]? =some (.cells #[.int .i64 sa,.int .i64 ta',.slice ka kna kca,.slice na nna nca] 37 (0,0))∧wr.heap[w.heap.size+1+1]? =some (.cells #[.int .i64 sb,.int .i64 tb',.slice kb knb kcb,.slice nb nnb ncb] 37 (0,0))∧Below w.heap.size w wr)∧∀i,i<j→byI (ks.getD i ⟨false,0,false⟩) a b=0) (fun i _=>LO-(intOf i).toNat)
 case atStart=>exact ⟨0,Nat.zero_le _,rfl,⟨Bk,Bk,Bk,Gr⟩,fun i h=>absurd h (Nat.not_lt_zero i)⟩
 case round=>
  obtain ⟨j,hj,rfl,hst,hz⟩:=hrel
  have HST:=hid hst;have HZJ:=hid hz
  have q12:=cell_blk (i:=12) (x:= .slice oa LO oc) HST.out.1 rfl
  have zb:=lt_of_block HST.out.2.2.1
  clear hst hz
  have g1:(0:Int)≤(j:Int):=Int.natCast_nonneg _
  by_cases hjL:j<LO
  ·have hI:(j:Int)<(LO:Int):=by omega
   have hlen:j<ks.length:=by rw [HN.out];exact hjL
   obtain ⟨bk,off,rfl,hcl⟩:=HK.out (by omega)
   obtain ⟨c0,c1,c2⟩:=hcl j hlen
   have hgd:ks.getD j ⟨false,0,false⟩=ks[j]:=by rw [List.getD_eq_getElem?_getD,List.getElem?_eq_getElem hlen];rfl
   have HX:=hid (HXY.out ks[j]);have HY:=hid (HYX.out ks[j]);have HG:=hid (HNG.out ks[j])
   have HT:=hid (fun h=>HAT.out j hlen (fun i hi=>HZJ.out i hi) (by rw [hgd];exact h))
   rw [hgd] at HT
   have HZ2:Hid (byI ks[j] a b=0→∀i,i<j+1→byI (ks.getD i ⟨false,0,false⟩) a b=0):=fun h0 i hi=>by
    by_cases h3:i<j
    ·exact HZJ.out i h3
    ·obtain rfl:i=j:=by omega
     rw [hgd];exact h0
   have a0:=cell_blk (i:=0) (x:= .int .i64 sa) HST.out.2.1 rfl;have a1:=cell_blk (i:=1) (x:= .int .i64 ta') HST.out.2.1 rfl;have a2:=cell_blk (i:=2) (x:= .slice ka kna kca) HST.out.2.1 rfl;have a3:=cell_blk (i:=3) (x:= .slice na nna nca) HST.out.2.1 rfl
   have b0:=cell_blk (i:=0) (x:= .int .i64 sb) HST.out.2.2.1 rfl;have b1:=cell_blk (i:=1) (x:= .int .i64 tb') HST.out.2.2.1 rfl;have b2:=cell_blk (i:=2) (x:= .slice kb knb kcb) HST.out.2.2.1 rfl;have b3:=cell_blk (i:=3) (x:= .slice nb nnb ncb) HST.out.2.2.1 rfl
   replace c0:=cell_step c0 HST.out.2.2.2;replace c1:=cell_step c1 HST.out.2.2.2;replace c2:=cell_step c2 HST.out.2.2.2
   clear hcl hgd HZ HZJ
   generalize byI ks[j] b a=y at*
   generalize byI ks[j] a b=x at*
   generalize ks[j].agg=k0 at*;generalize ks[j].pos=k1' at*;generalize ks[j].desc=k2' at*
   have P0:=World.plus_cell a0;have P1:=World.plus_cell a1;have P2:=World.plus_cell a2;have P3:=World.plus_cell a3;have P4:=World.plus_cell b0;have P5:=World.plus_cell b1;have P6:=World.plus_cell b2;have P7:=World.plus_cell b3
   have P8:=World.plus_cell c0;have P9:=World.plus_cell c1;have Pa:=World.plus_cell c2;have Pb:=World.plus_cell q12
   have HBL:=hid HST.out.2.2.2
   go_wp2_with fail
   refine wp_region_plus (by kernel_rfl) (by kernel_rfl) ?_
   repeat (first|go_big_quiet_skip|(go_big_quiet_want;go_big_quiet_op;first|go_big_quiet_on|go_big_quiet_call (((go_at_call 77;exact Calls.plus_of (HX.out _ (HBL.out.step (World.plus_below _ _))))))))
   refine wpQuiet_nil ?_
   rintro _ ⟨xq,rfl⟩
   have kB:=hid (World.plus_below wr xq)
   by_cases hx:x<0
   ·have hxd:decide (x<0)=true:=by simpa using hx
    have HR:=hid (HT.out (by omega))
    have HB2:=hid (HBL.out.step kB.out)
    go_wp2
    go_ret
    exact ⟨ret_bool (by rw [HR.out];simpa using hx),HB2.out⟩
   ·have hxd:decide (x<0)=false:=by simpa using hx
    have e0:=World.plus_cell (P0 xq);have e1:=World.plus_cell (P1 xq);have e2:=World.plus_cell (P2 xq);have e3:=World.plus_cell (P3 xq);have e4:=World.plus_cell (P4 xq);have e5:=World.plus_cell (P5 xq);have e6:=World.plus_cell (P6 xq);have e7:=World.plus_cell (P7 xq)
    have e8:=World.plus_cell (P8 xq);have e9:=World.plus_cell (P9 xq);have ea:=World.plus_cell (Pa xq);have eb:=World.plus_cell (Pb xq)
    have HB2:=hid (HBL.out.step kB.out)
    clear a0 a1 a2 a3 b0 b1 b2 b3 c0 c1 c2 q12 P0 P1 P2 P3 P4 P5 P6 P7 P8 P9 Pa Pb
    have HST2:=hid (show (World.plus wr xq).heap[w.heap.size]? =some (.cells #[.slice aa LA ac,.slice ba LB bc,.int .i64 mode,.slice sa' LS sc',.int .i64 every,.int .i64 kind,.string name,.slice wa wn wk,.int .i64 fr,.int .i64 till,.slice la ln lc,.slice ha' LH hc,.slice (some ⟨bk,off,none⟩) LO oc,.int .i64 limit] 33 (0,0))∧(World.plus wr xq).heap[w.heap.size+1]? =some (.cells #[.int .i64 sa,.int .i64 ta',.slice ka kna kca,.slice na nna nca] 37 (0,0))∧(World.plus wr xq).heap[w.heap.size+1+1]? =some (.cells #[.int .i64 sb,.int .i64 tb',.slice kb knb kcb,.slice nb nnb ncb] 37 (0,0))∧Below w.heap.size w (World.plus wr xq) from ⟨blk_below HST.out.1 kB.out,blk_below HST.out.2.1 kB.out,blk_below HST.out.2.2.1 kB.out,HB2.out⟩)
    clear kB
    generalize World.plus wr xq=Y at*
    go_wp2_with fail
    refine wp_region_plus (by kernel_rfl) (by kernel_rfl) ?_
    repeat (first|go_big_quiet_skip|(go_big_quiet_want;go_big_quiet_op;first|go_big_quiet_on|go_big_quiet_call (((go_at_call 77;exact Calls.plus_of (HY.out _ (HB2.out.step (World.plus_below _ _))))))))
    refine wpQuiet_nil ?_
    rintro _ ⟨xq,rfl⟩
    have kB:=hid (World.plus_below Y xq)
    have HB3:=hid (HB2.out.step kB.out)
    by_cases hy:y<0
    ·have hyd:decide (y<0)=true:=by simpa using hy
     have HR:=hid (HT.out (by have:=HG.out;omega))
     have HLE:Hid (¬R<0):=by unfold Hid;rw [HR.out];omega
     go_wp2
     go_ret
     exact ⟨ret_bool (by have:=HLE.out;simp;omega),HB3.out⟩
    ·have hyd:decide (y<0)=false:=by simpa using hy
     have HZ3:=hid (HZ2.out (by have:=HG.out;omega))
     go_wp2
     go_roundw
     case rel=>exact ⟨j+1,hjL,by go_num,⟨blk_below HST2.out.1 kB.out,blk_below HST2.out.2.1 kB.out,blk_below HST2.out.2.2.1 kB.out,HB3.out⟩,HZ3.out⟩
     case measure=>simp [intOf];omega
  ·obtain rfl:j=LO:=by omega
   have HR:=hid (HZ.out (fun i hi=>HZJ.out i (by rw [HN.out] at hi;exact hi)))
   have HBL:=hid HST.out.2.2.2
   go_wp2
   go_ret
   exact ⟨ret_bool (by rw [HR.out];simp),HBL.out⟩
end Go.Proofs.YtejleplhmkmegaaGreatDoor
