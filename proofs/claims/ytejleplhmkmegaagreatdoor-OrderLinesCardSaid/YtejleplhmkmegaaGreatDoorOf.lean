/- Texts joined: OrC, SeqN, OrD, SchI, SchJ, SchK, SchL, Mixed, SchN, OrE, OrF, OrG. -/
import Derived.Test.YtejleplhmkmegaaGreatDoorOe
import Derived.Test.YtejleplhmkmegaaGreatDoorOc
import Derived.Test.YtejleplhmkmegaaGreatDoorOa
import Derived.Test.YtejleplhmkmegaaGreatDoorOb
import Derived.OrdersHeld
import Derived.StillTail
set_option linter.unusedVariables false
set_option linter.unusedSimpArgs false
namespace Go.Proofs.YtejleplhmkmegaaGreatDoor
set_option maxRecDepth 100000
open Go.ChangeShapes Go.WideShapes Go.ChangeAt Go.RowKit Go.Fl
attribute [local go_sem] ord_lt ord_eq ord_gt ord_ne run_store_float run_equalIn_float
theorem NumD.cells_len (v:NumD):v.cells.length=3:=rfl
def NumsSl (w:World) (v:Value) (l:List NumD):Prop:=SlAt w v l.length 3 (l.flatMap NumD.cells)
theorem NumsSl.below {w w':World} {v:Value} {l:List NumD} (h:NumsSl w v l) (hb:Below w.heap.size w w'):NumsSl w' v l:=SlAt.below h hb
theorem nums_at {l:List NumD} {i:Nat} (hi:i<l.length):(l.flatMap NumD.cells)[i*3]? =some (.bool l[i].fl)∧(l.flatMap NumD.cells)[i*3+1]? =some (.int .i64 l[i].n)∧(l.flatMap NumD.cells)[i*3+2]? =some (.float .f64 l[i].f):=
 ⟨(flat_at 3 _ NumD.cells_len l i 0 (by decide) hi).trans rfl,(flat_at 3 _ NumD.cells_len l i 1 (by decide) hi).trans rfl,(flat_at 3 _ NumD.cells_len l i 2 (by decide) hi).trans rfl⟩
theorem NumsSl.parts {w:World} {v:Value} {l:List NumD} (h:NumsSl w v l):∃ao cap,v= .slice ao l.length cap∧l.length≤cap∧cap≤maxLen∧(ao=none→cap=0)∧
  (0<l.length→∃b off,ao=some ⟨b,off,none⟩∧∀i (hi:i<l.length),w.cell? ⟨b,off+i*3,none⟩=some (.bool l[i].fl)∧w.cell? ⟨b,off+i*3+1,none⟩=some (.int .i64 l[i].n)∧w.cell? ⟨b,off+i*3+2,none⟩=some (.float .f64 l[i].f)):=by
 obtain ⟨h0,ao,cap,rfl,h1,h2,h3,h⟩:=h
 refine ⟨ao,cap,rfl,h1,h2,h3,fun hl=> ?_⟩
 obtain ⟨b,off,rfl,hc⟩:=h (by rw [h0];omega)
 exact ⟨b,off,rfl,fun i hi=>⟨hc _ _ (nums_at hi).1,hc _ _ (nums_at hi).2.1,hc _ _ (nums_at hi).2.2⟩⟩
structure LineIs (w:World) (vk vn:Value) (l:LineD):Prop where
 key:ValsSl w vk l.key
 nums:NumsSl w vn l.nums
 ok:∀v∈l.nums,NumOk v
theorem LineIs.below {w w':World} {vk vn:Value} {l:LineD} (h:LineIs w vk vn l) (hb:Below w.heap.size w w'):LineIs w' vk vn l:=⟨h.key.below hb,h.nums.below hb,h.ok⟩
theorem within_two (p n m:Int) (B cap:Nat) (w:World) (h0:w.cell? ⟨B,0,none⟩=some (.int .i64 n)) (h1:w.cell? ⟨B,1,none⟩=some (.int .i64 m)):
  Calls Tryz.prog 167 #[.int .i64 p,.slice (some ⟨B,0,none⟩) 2 cap] w fun e w'=>e= .returned (.bool (decide (0≤p)&&decide (p<min n m)))∧w=w':=by
 have M:=Tryz.slices_Min_int B 0 2 cap [n,m] w (by decide) (by simp) (by decide) (fun j hj=>by
  have:j=0∨j=1:=by simp at hj;omega
  rcases this with rfl|rfl
  ·exact h0
  ·exact h1)
 have e:Lib.minOf ([n,m].take 2)=min n m:=by
  show min (min n n) m=min n m
  omega
 rw [e] at M
 have MM:=hid M
 generalize min n m=z at*
 clear M e
 by_cases hp:0≤p
 ·rw [decide_eq_true hp,Bool.true_and]
  go_enter Tryz.func167,Tryz.ntmps167
  go_wp2_with (go_at_call 211;((with_reducible refine MM.out.mono ?_);rintro e w1 ⟨rfl,rfl⟩))
  go_ret
  exact ⟨rfl,rfl⟩
 ·rw [decide_eq_false hp,Bool.false_and]
  go_enter Tryz.func167,Tryz.ntmps167
  go_wp2
  go_ret
  exact ⟨rfl,rfl⟩
theorem cmpN_is (a b:NumD): -1≤cmpN a b∧cmpN a b≤1:=by
 unfold cmpN sgnI
 (repeat' split)<;>omega
set_option maxHeartbeats 2000000 in
theorem by_agg (p:Int) (desc:Bool) (sa ta sb tb:Int) (ka na kb nb:Value) (a b:LineD) (w:World) (ha:LineIs w ka na a) (hb:LineIs w kb nb b):
  Calls Tryz.prog 103 #[.agg #[.bool true,.int .i64 p,.bool desc],.agg #[.int .i64 sa,.int .i64 ta,ka,na],.agg #[.int .i64 sb,.int .i64 tb,kb,nb]] w fun e w'=>e= .returned (.int .i64 (byI ⟨true,p,desc⟩ a b))∧Below w.heap.size w w':=by
 obtain ⟨ao,ac,rfl,a1,a2,a3,a4⟩:=ha.nums.parts
 obtain ⟨bo,bc,rfl,b1,b2,b3,b4⟩:=hb.nums.parts
 obtain ⟨ko,kc,rfl,_⟩:=SlAt.shape ha.key
 obtain ⟨lo,lc,rfl,_⟩:=SlAt.shape hb.key
 unfold maxLen at a2 b2
 have WI:=hid (fun B cap W h0 h1=>within_two p (a.nums.length:Int) (b.nums.length:Int) B cap W h0 h1)
 by_cases hin:0≤p∧p.toNat<a.nums.length∧p.toNat<b.nums.length
 ·obtain ⟨i,rfl⟩:=Int.eq_ofNat_of_zero_le hin.1
  have hia:i<a.nums.length:=by have:=hin.2.1;omega
  have hib:i<b.nums.length:=by have:=hin.2.2;omega
  have e:byI ⟨true,(i:Int),desc⟩ a b=if desc then-cmpN a.nums[i] b.nums[i] else cmpN a.nums[i] b.nums[i]:=by
   unfold byI byP
   dsimp only
   rw [if_pos rfl,dif_pos hin]
   rfl
  rw [e]
  rw [show (decide ((0:Int)≤(i:Int))&&decide ((i:Int)<min (a.nums.length:Int) (b.nums.length:Int)))=true by simp;omega] at WI
  obtain ⟨A,ao',rfl,hA⟩:=a4 (by omega)
  obtain ⟨B,bo',rfl,hB⟩:=b4 (by omega)
  obtain ⟨x0,x1,x2⟩:=hA i hia
  obtain ⟨y0,y1,y2⟩:=hB i hib
  have CN:=hid (fun W=>compare_num a.nums[i] b.nums[i] (ha.ok _ (List.getElem_mem hia)) (hb.ok _ (List.getElem_mem hib)) W)
  have hc:=cmpN_is a.nums[i] b.nums[i]
  generalize cmpN a.nums[i] b.nums[i]=c at*
  generalize a.nums[i].n=n1 at*;generalize a.nums[i].fl=f1 at*;generalize a.nums[i].f=g1 at*
  generalize b.nums[i].n=n2 at*;generalize b.nums[i].fl=f2 at*;generalize b.nums[i].f=g2 at*
  have HN:=hid hia;have HM:=hid hib
  clear a4 b4 hin e ha hb hA hB
  generalize a.nums.length=n at*;generalize b.nums.length=m at*
  have hin:(i:Int)<(n:Int):=by omega
  have him:(i:Int)<(m:Int):=by omega
  obtain ⟨X,hX⟩:∃X,(((w.alloc (.cells #[.bool true,.int .i64 (i:Int),.bool desc] 131)).alloc (.cells #[.int .i64 sa,.int .i64 ta,.slice ko a.key.length kc,.slice (some ⟨A,ao',none⟩) n ac] 37)).alloc (.cells #[.int .i64 sb,.int .i64 tb,.slice lo b.key.length lc,.slice (some ⟨B,bo',none⟩) m bc] 37)).alloc (.cells #[.int .i64 (n:Int),.int .i64 (m:Int)] 3)=X:=⟨_,rfl⟩
  have hBX:Below w.heap.size w X:=by rw [←hX];exact Gr
  have z1:X.cell? ⟨w.heap.size,1,none⟩=some (.int .i64 (i:Int)):=by subst hX;go_simp
  have z2:X.cell? ⟨w.heap.size,2,none⟩=some (.bool desc):=by subst hX;go_simp
  have z3:X.cell? ⟨w.heap.size+1,3,none⟩=some (.slice (some ⟨A,ao',none⟩) n ac):=by subst hX;go_simp
  have z4:X.cell? ⟨w.heap.size+1+1,3,none⟩=some (.slice (some ⟨B,bo',none⟩) m bc):=by subst hX;go_simp
  have z5:X.cell? ⟨w.heap.size+1+1+1,0,none⟩=some (.int .i64 (n:Int)):=by subst hX;go_simp
  have z6:X.cell? ⟨w.heap.size+1+1+1,1,none⟩=some (.int .i64 (m:Int)):=by subst hX;go_simp
  have t0:=(hBX.cell (World.block_lt_of_cell? _ _ x0)).trans x0;have t1:=(hBX.cell (World.block_lt_of_cell? _ _ x1)).trans x1;have t2:=(hBX.cell (World.block_lt_of_cell? _ _ x2)).trans x2
  have u0:=(hBX.cell (World.block_lt_of_cell? _ _ y0)).trans y0;have u1:=(hBX.cell (World.block_lt_of_cell? _ _ y1)).trans y1;have u2:=(hBX.cell (World.block_lt_of_cell? _ _ y2)).trans y2
  have p0:=World.plus_cell t0;have p1:=World.plus_cell t1;have p2:=World.plus_cell t2;have p3:=World.plus_cell u0;have p4:=World.plus_cell u1;have p5:=World.plus_cell u2
  have p6:=World.plus_cell z1;have p7:=World.plus_cell z2;have p8:=World.plus_cell z3;have p9:=World.plus_cell z4
  clear x0 x1 x2 y0 y1 y2 t0 t1 t2 u0 u1 u2
  cases desc
  all_goals
   go_enter Tryz.func103,Tryz.ntmps103
   go_wp2_with (go_at_call 167;((with_reducible refine (WI.out _ _ _ (by first|exact z5|go_simp) (by first|exact z6|go_simp)).mono ?_);rintro e w1 ⟨rfl,rfl⟩))
   try rw [hX]
   clear hX z1 z2 z3 z4 z5 z6
   refine wp_region_plus (by kernel_rfl) (by kernel_rfl) ?_
   repeat (first|go_big_quiet_skip|(go_big_quiet_want;go_big_quiet_op;first|go_big_quiet_on|go_big_quiet_call (((go_at_call 21;exact Calls.plus_of (CN.out _))))))
   refine wpQuiet_nil ?_
   rintro _ ⟨xq,rfl⟩
   have kB:=World.plus_below X xq
   go_wp2
   go_ret
   exact ⟨rfl,hBX.trans (kB.mono hBX.size)⟩
 ·have e:byI ⟨true,p,desc⟩ a b=0:=by
   unfold byI byP
   dsimp only
   rw [if_pos rfl,dif_neg hin]
   split<;>rfl
  rw [e]
  rw [show (decide ((0:Int)≤p)&&decide (p<min (a.nums.length:Int) (b.nums.length:Int)))=false by simp;omega] at WI
  clear a4 b4 hin e ha hb
  generalize a.nums.length=n at*;generalize b.nums.length=m at*
  cases desc
  all_goals
   go_enter Tryz.func103,Tryz.ntmps103
   go_wp2_with (go_at_call 167;((with_reducible refine (WI.out _ _ _ (by go_simp) (by go_simp)).mono ?_);rintro e w1 ⟨rfl,rfl⟩))
   go_ret
   exact ⟨rfl,Gr⟩
theorem lessL_cmp (x y:ValD):lessL [x] [y]=decide (cmpV x y<0):=lessL_one x y
theorem vals_one_sl (w:World) (A o cap:Nat) (v:ValD) (h1:1≤cap) (h2:cap≤maxLen) (x0:w.cell? ⟨A,o,none⟩=some (.string v.s)) (x1:w.cell? ⟨A,o+1,none⟩=some (.bool v.nl)):ValsSl w (.slice (some ⟨A,o,none⟩) 1 cap) [v]:=by
 refine ⟨rfl,_,cap,rfl,h1,h2,fun h=>(by cases h),fun _=>⟨A,o,rfl,fun j u hj=> ?_⟩⟩
 obtain _|_|j:=j
 ·simp [ValD.cells] at hj;subst hj;exact x0
 ·simp [ValD.cells] at hj;subst hj;exact x1
 ·simp [ValD.cells] at hj
set_option maxHeartbeats 2000000 in
theorem by_key (p:Int) (desc:Bool) (sa ta sb tb:Int) (ka na kb nb:Value) (a b:LineD) (w:World) (ha:LineIs w ka na a) (hb:LineIs w kb nb b):
  Calls Tryz.prog 103 #[.agg #[.bool false,.int .i64 p,.bool desc],.agg #[.int .i64 sa,.int .i64 ta,ka,na],.agg #[.int .i64 sb,.int .i64 tb,kb,nb]] w fun e w'=>e= .returned (.int .i64 (byI ⟨false,p,desc⟩ a b))∧Below w.heap.size w w':=by
 obtain ⟨ao,ac,rfl,a1,a2,a3,a4⟩:=ha.key.parts
 obtain ⟨bo,bc,rfl,b1,b2,b3,b4⟩:=hb.key.parts
 obtain ⟨ko,kc,rfl,_⟩:=SlAt.shape ha.nums
 obtain ⟨lo,lc,rfl,_⟩:=SlAt.shape hb.nums
 unfold maxLen at a2 b2
 have WI:=hid (fun B cap W h0 h1=>within_two p (a.key.length:Int) (b.key.length:Int) B cap W h0 h1)
 by_cases hin:0≤p∧p.toNat<a.key.length∧p.toNat<b.key.length
 ·obtain ⟨i,rfl⟩:=Int.eq_ofNat_of_zero_le hin.1
  have hia:i<a.key.length:=by have:=hin.2.1;omega
  have hib:i<b.key.length:=by have:=hin.2.2;omega
  have e0:byP ⟨false,(i:Int),desc⟩ a b=cmpV a.key[i] b.key[i]:=by
   unfold byP
   rw [if_neg (show ¬(false=true) by decide),dif_pos hin]
   rfl
  have e:byI ⟨false,(i:Int),desc⟩ a b=if desc then-cmpV a.key[i] b.key[i] else cmpV a.key[i] b.key[i]:=by
   unfold byI
   rw [e0]
  rw [e]
  rw [show (decide ((0:Int)≤(i:Int))&&decide ((i:Int)<min (a.key.length:Int) (b.key.length:Int)))=true by simp;omega] at WI
  obtain ⟨A,ao',rfl,hA⟩:=a4 (by omega)
  obtain ⟨B,bo',rfl,hB⟩:=b4 (by omega)
  obtain ⟨x0,x1⟩:=hA i hia
  obtain ⟨y0,y1⟩:=hB i hib
  have hc:=cmpV_is a.key[i] b.key[i]
  have HN:=hid hia;have HM:=hid hib
  clear a4 b4 hin e e0 ha hb hA hB
  generalize a.key[i]=ea at*;generalize b.key[i]=eb at*
  have SA:=vals_one_sl w A (ao'+i*2) (ac-i) ea (by omega) (by unfold maxLen;omega) x0 x1
  have SB:=vals_one_sl w B (bo'+i*2) (bc-i) eb (by omega) (by unfold maxLen;omega) y0 y1
  have LA:=hid (fun W hW=>less_any _ _ [ea] [eb] W (SA.below hW) (SB.below hW))
  have LB:=hid (fun W hW=>less_any _ _ [eb] [ea] W (SB.below hW) (SA.below hW))
  rw [lessL_cmp] at LA LB
  have ho:=val_good.anti ea eb trivial trivial
  generalize cmpV eb ea=r' at*
  subst ho
  generalize cmpV ea eb=r at*
  clear x0 x1 y0 y1 SA SB
  generalize a.key.length=n at*;generalize b.key.length=m at*
  have hin:(i:Int)<(n:Int):=by omega
  have him:(i:Int)<(m:Int):=by omega
  obtain ⟨X,hX⟩:∃X,(((w.alloc (.cells #[.bool false,.int .i64 (i:Int),.bool desc] 131)).alloc (.cells #[.int .i64 sa,.int .i64 ta,.slice (some ⟨A,ao',none⟩) n ac,.slice ko a.nums.length kc] 37)).alloc (.cells #[.int .i64 sb,.int .i64 tb,.slice (some ⟨B,bo',none⟩) m bc,.slice lo b.nums.length lc] 37)).alloc (.cells #[.int .i64 (n:Int),.int .i64 (m:Int)] 3)=X:=⟨_,rfl⟩
  have hBX:Below w.heap.size w X:=by rw [←hX];exact Gr
  have z1:X.cell? ⟨w.heap.size,1,none⟩=some (.int .i64 (i:Int)):=by subst hX;go_simp
  have z2:X.cell? ⟨w.heap.size,2,none⟩=some (.bool desc):=by subst hX;go_simp
  have z3:X.cell? ⟨w.heap.size+1,2,none⟩=some (.slice (some ⟨A,ao',none⟩) n ac):=by subst hX;go_simp
  have z4:X.cell? ⟨w.heap.size+1+1,2,none⟩=some (.slice (some ⟨B,bo',none⟩) m bc):=by subst hX;go_simp
  have z5:X.cell? ⟨w.heap.size+1+1+1,0,none⟩=some (.int .i64 (n:Int)):=by subst hX;go_simp
  have z6:X.cell? ⟨w.heap.size+1+1+1,1,none⟩=some (.int .i64 (m:Int)):=by subst hX;go_simp
  have p6:=World.plus_cell z1;have p7:=World.plus_cell z2;have p8:=World.plus_cell z3;have p9:=World.plus_cell z4
  cases desc
  all_goals
   go_enter Tryz.func103,Tryz.ntmps103
   go_wp2_with (go_at_call 167;((with_reducible refine (WI.out _ _ _ (by first|exact z5|go_simp) (by first|exact z6|go_simp)).mono ?_);rintro e w1 ⟨rfl,rfl⟩))
   try rw [hX]
   clear hX z1 z2 z3 z4 z5 z6
   refine wp_region_plus (by kernel_rfl) (by kernel_rfl) ?_
   repeat (first|go_big_quiet_skip|(go_big_quiet_want;go_big_quiet_op;first|go_big_quiet_on|go_big_quiet_call ((fail))))
   refine wpQuiet_nil ?_
   rintro _ ⟨xq,rfl⟩
   have kB:=hBX.trans ((World.plus_below X xq).mono hBX.size)
   rcases hc with rfl|rfl|rfl
   all_goals
    go_wp2_with (go_at_call 168;first|(with_reducible refine (LA.out _ kB).mono ?_);rintro e w1 ⟨rfl,kC⟩;have v7:=(kC.cell (World.block_lt_of_cell? _ _ (p7 xq))).trans (p7 xq)|(with_reducible refine (LB.out _ (kB.trans (kC.mono kB.size))).mono ?_);rintro e w2 ⟨rfl,kD⟩;have v8:=(kD.cell (World.block_lt_of_cell? _ _ v7)).trans v7)
    go_ret
    first
    |exact ⟨rfl,kB.trans ((kC.trans (kD.mono kC.size)).mono kB.size)⟩
    |exact ⟨rfl,kB.trans (kC.mono kB.size)⟩
 ·have e0:byP ⟨false,p,desc⟩ a b=0:=by
   unfold byP
   rw [if_neg (show ¬(false=true) by decide),dif_neg hin]
  have e:byI ⟨false,p,desc⟩ a b=0:=by
   unfold byI
   rw [e0]
   split<;>rfl
  rw [e]
  rw [show (decide ((0:Int)≤p)&&decide (p<min (a.key.length:Int) (b.key.length:Int)))=false by simp;omega] at WI
  clear a4 b4 hin e e0 ha hb
  generalize a.key.length=n at*;generalize b.key.length=m at*
  cases desc
  all_goals
   go_enter Tryz.func103,Tryz.ntmps103
   go_wp2_with (go_at_call 167;((with_reducible refine (WI.out _ _ _ (by go_simp) (by go_simp)).mono ?_);rintro e w1 ⟨rfl,rfl⟩))
   go_ret
   exact ⟨rfl,Gr⟩
theorem by_any (k:KeyD) (sa ta sb tb:Int) (ka na kb nb:Value) (a b:LineD) (w:World) (ha:LineIs w ka na a) (hb:LineIs w kb nb b):
  Calls Tryz.prog 103 #[.agg #[.bool k.agg,.int .i64 k.pos,.bool k.desc],.agg #[.int .i64 sa,.int .i64 ta,ka,na],.agg #[.int .i64 sb,.int .i64 tb,kb,nb]] w fun e w'=>e= .returned (.int .i64 (byI k a b))∧Below w.heap.size w w':=by
 obtain ⟨g,p,d⟩:=k
 cases g
 ·exact by_key p d sa ta sb tb ka na kb nb a b w ha hb
 ·exact by_agg p d sa ta sb tb ka na kb nb a b w ha hb
structure ProtN (n₀ lo hi B:Nat) (W W':World):Prop where
 size:W.heap.size≤W'.heap.size
 low:∀k,k<n₀→W'.heap[k]? =W.heap[k]?
 mid:∀k,lo≤k→k<hi→W'.heap[k]? =W.heap[k]?
 high:∀k,B≤k→k<W.heap.size→W'.heap[k]? =W.heap[k]?
theorem ProtN.refl (n₀ lo hi B:Nat) (W:World):ProtN n₀ lo hi B W W:=⟨Nat.le_refl _,fun _ _=>rfl,fun _ _ _=>rfl,fun _ _ _=>rfl⟩
theorem ProtN.trans {n₀ lo hi B:Nat} {X Y Z:World} (h:ProtN n₀ lo hi B X Y) (k:ProtN n₀ lo hi B Y Z):ProtN n₀ lo hi B X Z:=
 ⟨Nat.le_trans h.size k.size,fun i hi=>(k.low i hi).trans (h.low i hi),fun i h1 h2=>(k.mid i h1 h2).trans (h.mid i h1 h2),fun i h1 h2=>(k.high i h1 (Nat.lt_of_lt_of_le h2 h.size)).trans (h.high i h1 h2)⟩
theorem ProtN.weaken {n₀ lo hi B B':Nat} {X Y:World} (h:ProtN n₀ lo hi B X Y) (hB:B≤B'):ProtN n₀ lo hi B' X Y:=⟨h.size,h.low,h.mid,fun i h1 h2=>h.high i (Nat.le_trans hB h1) h2⟩
theorem ProtN.putObj {n₀ lo hi B:Nat} (W:World) (l:Nat) (o':Obj) (hl:n₀≤l∧hi≤l∧l<B):ProtN n₀ lo hi B W (W.putObj l o'):=
 ⟨by simp,fun k hk=>World.putObj_heap_other (by omega),fun k h1 h2=>World.putObj_heap_other (by omega),fun k h1 h2=>World.putObj_heap_other (by omega)⟩
theorem ProtN.prot {n₀ lo hi B:Nat} {X Y:World} (h:ProtN n₀ lo hi B X Y):Prot n₀ lo hi X Y:=⟨h.size,h.low,h.mid⟩
def SeqN (P:Program) (g:Nat) (lb:Array Value) (enc:Nat→Array Value) (n₀ lo hi:Nat) (N:Nat) (w:World):Prop:=
 ∀(n l:Nat) (J Jx:Nat→World→Prop) (W:World),Below w.heap.size w W→(∀k,Stab W.heap.size (J k))→(∀k,Stab W.heap.size (Jx k))→
  (∀k,k<N→∀W1,W.heap.size≤W1.heap.size→J k W1→YieldAt Fence.wide n P l (enc k) W1 fun e W'=>
   (e= .returned (.bool true)∧J (k+1) W'∧ProtN n₀ lo hi W.heap.size W1 W')∨(e= .returned (.bool false)∧Jx k W'∧ProtN n₀ lo hi W.heap.size W1 W'))→
  J 0 W→
  Calls P g (#[.func (.yield l) #[] #[]]++lb) W fun e W'=>(∃v,e= .returned v)∧(J N W'∨∃k,k<N∧Jx k W')
def roundQN (B n₀ lo hi:Nat) (I:Nat→World→Prop) (Ix:Code→Nat→World→Prop) (k:Nat) (W:World):Exit→Act→World→Prop
 | .normal,_,W'=>ProtN n₀ lo hi B W W'∧I (k+1) W'
 | .ret,_,W'=>ProtN n₀ lo hi B W W'∧Ix .ret k W'
 | .exit id,_,W'=>ProtN n₀ lo hi B W W'∧Ix (.exit id) k W'
 | .goto t,_,W'=>ProtN n₀ lo hi B W W'∧Ix (.goto t) k W'
 | .panic _,_,_=>False
 | .outgrown,_,_=>False
set_option maxHeartbeats 1000000 in
theorem wp_rangeN {P:Program} {g:Operand} {ps:Array Tmp} {assign body:Code} {Q:Exit→Act→World→Prop} {a:Act} {w:World}
  {gf:Nat} {lb:Array Value} (hg:a.eval g= .func (.func gf) #[] lb) (eg:∀args w,(callFunc gf args).run P w= .ok (.enter gf args) w)
  {enc:Nat→Array Value} {n₀ lo hi:Nat} {N:Nat} (hseq:SeqN P gf lb enc n₀ lo hi N w) (hn:n₀≤w.heap.size∧hi≤w.heap.size) (hps:∀k,(enc k).size=ps.size)
  (I:Nat→World→Prop) (Ix:Code→Nat→World→Prop) (hI:∀k,Stab w.heap.size (I k)) (hIx:∀c k,Stab w.heap.size (Ix c k)) (h0:I 0 w)
  (hround:∀(l k:Nat) (W:World),k<N→I k W→w.heap.size≤l→l<W.heap.size→w.heap.size≤W.heap.size→
   assign.wpIn (Fence.wide.inRound l) 8 P (Exit.then (fun a₁ W1=>ProtN n₀ lo hi w.heap.size W W1∧∀W2,Turn l W1 W2→body.wpIn (Fence.wide.inRound l) 8 P (roundQN w.heap.size n₀ lo hi I Ix k W2) a₁ W2) (fun _ _ _=>False))
    { tmps:=(ps.zip (enc k)).foldl (fun t (p,v)=>t.setIfInBounds p v) a.tmps,defers:=[]} W)
  (hdone:∀(D:Nat) (W:World),w.heap.size≤D→I N W→W.heap[D]? =some (.deferred (some []))→Q .normal { a with defers:=mark D::a.defers} W)
  (hstop:∀(D:Nat) (c:Code) (k:Nat) (W:World),w.heap.size≤D→k<N→Ix c k W→W.heap[D]? =some (.deferred (some []))→c.wp P Q { a with defers:=mark D::a.defers} W):
  (Code.rangeFunc g ps assign body).wp P Q a w:=by
 rw [←wpIn_wide (n:=10)]
 refine wpIn_rangeFunc ?_
 intro fn hfn
 obtain ⟨rec,hrec⟩:∃rec:LoopState→Option Code→Loop,rec=fun st pe=>{ state:=st,pending:=pe,fn,tmps:=a.tmps,params:=ps,assign,body,defers:=w.heap.size}:=⟨_,rfl⟩
 obtain ⟨W1,hW1⟩:∃W1,(w.alloc (.deferred (some []))).alloc (.loop (rec .ready none))=W1:=⟨_,rfl⟩
 have hL1:W1.heap[w.heap.size+1]? =some (.loop (rec .ready none)):=by
  rw [←hW1];have:=World.alloc_heap_new (w.alloc (.deferred (some []))) (.loop (rec .ready none));rwa [World.size_alloc] at this
 have hK1:W1.heap[w.heap.size]? =some (.deferred (some [])):=by
  rw [←hW1];exact (Below.heap_alloc _ _ _ (by simp)).trans (World.alloc_heap_new w _)
 have hI1:I 0 W1:=by rw [←hW1];exact (hI 0).alloc _ ((hI 0).alloc _ h0)
 have hb1:Below w.heap.size w W1:=by rw [←hW1];exact ((Below.refl _ w).alloc (Nat.le_refl _) _).alloc (by simp) _
 have hs1:W1.heap.size=w.heap.size+1+1:=by rw [←hW1];simp
 refine ⟨w.heap.size+1,[mark w.heap.size],W1,{ target:= .fn (.func gf) lb,args:= #[.func (.yield (w.heap.size+1)) #[] #[]]},W1,gf,
  #[.func (.yield (w.heap.size+1)) #[] #[]]++lb,W1,?_,?_,?_,?_,fun _=>by omega,?_⟩
 ·rw [←hW1,hrec];exact run_enterLoop_outer _ _ _ _ _
 ·simp only [resolve,hg]
  simp [go_sem]
 ·intro f' hf';trivial
 ·simp [invoke,go_sem,eg]
 ·have hrow:∀{A:World} {row:Option Nat},(∀r,row=some r→W1.heap.size≤r∧∃o:Obj,A.heap[r]? =some o∧o.isCells=false)→(∀r,row=some r→w.heap.size≤r∧∃o:Obj,A.heap[r]? =some o∧o.isCells=false):=
   fun hr r e=>by obtain ⟨hB,h⟩:=hr r e;exact ⟨by omega,h⟩
  have hstay:∀{A A':World} {row:Option Nat} {k:Nat} {o:Obj},A.grownBy A' row→(∀r,row=some r→W1.heap.size≤r∧∃o:Obj,A.heap[r]? =some o∧o.isCells=false)→k<W1.heap.size→A.heap[k]? =some o→A'.heap[k]? =some o:=
   fun hg' hr hk ho=>(hg'.block _ (Array.getElem?_eq_some_iff.1 ho).1 (fun e=>by have:=(hr _ e.symm).1;omega)).trans ho
  refine (callsIn_wide.2 (hseq 8 (w.heap.size+1)
   (fun k W=>I k W∧W.heap[w.heap.size+1]? =some (.loop (rec .ready none))∧W.heap[w.heap.size]? =some (.deferred (some [])))
   (fun k W=>∃c,Ix c k W∧W.heap[w.heap.size+1]? =some (.loop (rec .done (some c)))∧W.heap[w.heap.size]? =some (.deferred (some [])))
   W1 hb1
   (fun k A B row hs hg' hr=>⟨hI k A B row hs.1 hg' (hrow hr),hstay hg' hr (by omega) hs.2.1,hstay hg' hr (by omega) hs.2.2⟩)
   (fun k A B row hs hg' hr=>by
    obtain ⟨c,hc,hl,hk⟩:=hs
    exact ⟨c,hIx c k A B row hc hg' (hrow hr),hstay hg' hr (by omega) hl,hstay hg' hr (by omega) hk⟩)
   ?_ ⟨hI1,hL1,hK1⟩)).mono ?_
  ·-- one round
   rintro k hlen W hWs ⟨hi',hl,hk⟩
   have hlt:w.heap.size+1<W.heap.size:=(Array.getElem?_eq_some_iff.1 hl).1
   have hy:=run_yield (P:=P) (args:=enc k) hl (by rw [hrec];exact hps _)
   rw [hrec] at hy
   refine ⟨fn,_,assign,body,hy,roundIn_of_wpIn hfn ?_⟩
   clear hy
   refine wpIn_mono (hround _ k W hlen hi' (by omega) hlt (by omega)) ?_
   intro e a' Wa hpost
   cases e with
   |normal=>
    obtain ⟨hka,hbody⟩:=hpost
    have hla:=(hka.high _ (by omega) hlt).trans hl
    have hda:=(hka.high _ (Nat.le_refl _) (by omega)).trans hk
    have hlta:w.heap.size+1<Wa.heap.size:=(Array.getElem?_eq_some_iff.1 hla).1
    refine ⟨_,run_beginRound hla (by rw [hrec]),?_⟩
    have hl2:(Wa.putObj (w.heap.size+1) (.loop { rec .ready none with state:= .busy})).heap[w.heap.size+1]? =some (.loop { rec .ready none with state:= .busy}):=World.putObj_heap_same hlta
    have hk2:(Wa.putObj (w.heap.size+1) (.loop { rec .ready none with state:= .busy})).heap[w.heap.size]? =some (.deferred (some [])):=(World.putObj_heap_other (by omega)).trans hda
    have hw2:ProtN n₀ lo hi W1.heap.size Wa (Wa.putObj (w.heap.size+1) (.loop { rec .ready none with state:= .busy})):=ProtN.putObj _ _ _ (by omega)
    refine wpIn_mono (hbody _ (Turn.putObj hla rfl)) ?_
    have fin:∀(jump:Option Code) (W3:World),ProtN n₀ lo hi w.heap.size (Wa.putObj (w.heap.size+1) (.loop { rec .ready none with state:= .busy})) W3→
      (Instr.endRound (w.heap.size+1) jump).run P W3= .ok (.bool jump.isNone) (W3.putObj (w.heap.size+1) (.loop (rec (if jump.isNone then .ready else .done) jump)))∧
      W3.heap[w.heap.size+1]? =some (.loop { rec .ready none with state:= .busy})∧
      (W3.putObj (w.heap.size+1) (.loop (rec (if jump.isNone then .ready else .done) jump))).heap[w.heap.size+1]? =some (.loop (rec (if jump.isNone then .ready else .done) jump))∧
      (W3.putObj (w.heap.size+1) (.loop (rec (if jump.isNone then .ready else .done) jump))).heap[w.heap.size]? =some (.deferred (some [])):=fun jump W3 hk3=>by
     have hl3:=(hk3.high _ (by omega) (Array.getElem?_eq_some_iff.1 hl2).1).trans hl2
     have:=run_endRound (P:=P) jump hl3
     rw [hrec] at this ⊢
     exact ⟨this,by rw [hrec] at hl3;exact hl3,World.putObj_heap_same (Array.getElem?_eq_some_iff.1 hl3).1,(World.putObj_heap_other (by omega)).trans ((hk3.high _ (Nat.le_refl _) (Array.getElem?_eq_some_iff.1 hk2).1).trans hk2)⟩
    rintro e a3 W3 hp
    cases e with
    |normal=>
     obtain ⟨hk3,hi3⟩:=hp
     obtain ⟨hr,hl3,hl4,hk4⟩:=fin none W3 hk3
     exact ⟨_,_,hr,.inl ⟨rfl,⟨(hI _).putObj _ hi3 (by omega) hl3 rfl,hl4,hk4⟩,(hka.weaken (by omega)).trans ((hw2.trans (hk3.weaken (by omega))).trans (ProtN.putObj _ _ _ (by omega)))⟩⟩
    |ret=>
     obtain ⟨hk3,hi3⟩:=hp
     obtain ⟨hr,hl3,hl4,hk4⟩:=fin (some .ret) W3 hk3
     exact ⟨_,_,hr,.inr ⟨rfl,⟨.ret,(hIx _ _).putObj _ hi3 (by omega) hl3 rfl,hl4,hk4⟩,(hka.weaken (by omega)).trans ((hw2.trans (hk3.weaken (by omega))).trans (ProtN.putObj _ _ _ (by omega)))⟩⟩
    |exit id=>
     obtain ⟨hk3,hi3⟩:=hp
     obtain ⟨hr,hl3,hl4,hk4⟩:=fin (some (.exit id)) W3 hk3
     exact ⟨_,_,hr,.inr ⟨rfl,⟨.exit id,(hIx _ _).putObj _ hi3 (by omega) hl3 rfl,hl4,hk4⟩,(hka.weaken (by omega)).trans ((hw2.trans (hk3.weaken (by omega))).trans (ProtN.putObj _ _ _ (by omega)))⟩⟩
    |goto t=>
     obtain ⟨hk3,hi3⟩:=hp
     obtain ⟨hr,hl3,hl4,hk4⟩:=fin (some (.goto t)) W3 hk3
     exact ⟨_,_,hr,.inr ⟨rfl,⟨.goto t,(hIx _ _).putObj _ hi3 (by omega) hl3 rfl,hl4,hk4⟩,(hka.weaken (by omega)).trans ((hw2.trans (hk3.weaken (by omega))).trans (ProtN.putObj _ _ _ (by omega)))⟩⟩
    |panic ch=>exact hp.elim
    |outgrown=>exact hp.elim
   |ret=>exact hpost.elim
   |exit id=>exact hpost.elim
   |goto t=>exact hpost.elim
   |panic ch=>exact hpost.elim
   |outgrown=>exact hpost.elim
  ·-- behind the iterator
   rintro e W2 ⟨⟨v,rfl⟩,(⟨hi',hl,hk⟩|⟨k,hkl,c,hi',hl,hk⟩)⟩
   ·exact ⟨none,_,by have:=run_endLoop (P:=P) hl (by rw [hrec];simp);rw [hrec] at this;exact this,hdone _ _ (Nat.le_refl _) ((hI _).putObj _ hi' (by omega) hl rfl) ((World.putObj_heap_other (by omega)).trans hk)⟩
   ·exact ⟨some c,_,by have:=run_endLoop (P:=P) hl (by rw [hrec];simp);rw [hrec] at this;exact this,wpIn_wide.2 (hstop _ c k _ (Nat.le_refl _) hkl ((hIx c k).putObj _ hi' (by omega) hl rfl) ((World.putObj_heap_other (by omega)).trans hk))⟩
attribute [local go_sem] Oper.semAt_some
theorem KeyD.cells_len (v:KeyD):v.cells.length=3:=rfl
def KeysSl (w:World) (v:Value) (l:List KeyD):Prop:=SlAt w v l.length 3 (l.flatMap KeyD.cells)
theorem KeysSl.below {w w':World} {v:Value} {l:List KeyD} (h:KeysSl w v l) (hb:Below w.heap.size w w'):KeysSl w' v l:=SlAt.below h hb
theorem keys_at {l:List KeyD} {i:Nat} (hi:i<l.length):(l.flatMap KeyD.cells)[i*3]? =some (.bool l[i].agg)∧(l.flatMap KeyD.cells)[i*3+1]? =some (.int .i64 l[i].pos)∧(l.flatMap KeyD.cells)[i*3+2]? =some (.bool l[i].desc):=
 ⟨(flat_at 3 _ KeyD.cells_len l i 0 (by decide) hi).trans rfl,(flat_at 3 _ KeyD.cells_len l i 1 (by decide) hi).trans rfl,(flat_at 3 _ KeyD.cells_len l i 2 (by decide) hi).trans rfl⟩
theorem KeysSl.parts {w:World} {v:Value} {l:List KeyD} (h:KeysSl w v l):∃ao cap,v= .slice ao l.length cap∧l.length≤cap∧cap≤maxLen∧(ao=none→cap=0)∧
  (0<l.length→∃b off,ao=some ⟨b,off,none⟩∧∀i (hi:i<l.length),w.cell? ⟨b,off+i*3,none⟩=some (.bool l[i].agg)∧w.cell? ⟨b,off+i*3+1,none⟩=some (.int .i64 l[i].pos)∧w.cell? ⟨b,off+i*3+2,none⟩=some (.bool l[i].desc)):=by
 obtain ⟨h0,ao,cap,rfl,h1,h2,h3,h⟩:=h
 refine ⟨ao,cap,rfl,h1,h2,h3,fun hl=> ?_⟩
 obtain ⟨b,off,rfl,hc⟩:=h (by rw [h0];omega)
 exact ⟨b,off,rfl,fun i hi=>⟨hc _ _ (keys_at hi).1,hc _ _ (keys_at hi).2.1,hc _ _ (keys_at hi).2.2⟩⟩
def LowEq (w w':World):Prop:=∀k,k<w.heap.size→w'.heap[k]? =w.heap[k]?
theorem LowEq.of {w w':World} (h:Below w.heap.size w w'):LowEq w w':=h.block
theorem LowEq.cell {w w':World} (h:LowEq w w') {b o:Nat} {x:Value} (hx:w.cell? ⟨b,o,none⟩=some x):w'.cell? ⟨b,o,none⟩=some x:=by
 rw [←hx]
 simp only [World.cell?,h b (World.block_lt_of_cell? _ _ hx)]
theorem SlAt.low {w w':World} {v:Value} {n size:Nat} {cs:List Value} (h:SlAt w v n size cs) (hb:LowEq w w'):SlAt w' v n size cs:=by
 obtain ⟨h0,ao,cap,rfl,h1,h2,h3,h⟩:=h
 refine ⟨h0,ao,cap,rfl,h1,h2,h3,fun hl=> ?_⟩
 obtain ⟨b,off,rfl,hc⟩:=h hl
 exact ⟨b,off,rfl,fun j u hj=>hb.cell (hc j u hj)⟩
theorem LineIs.low {w w':World} {vk vn:Value} {l:LineD} (h:LineIs w vk vn l) (hb:LowEq w w'):LineIs w' vk vn l:=⟨SlAt.low h.key hb,SlAt.low h.nums hb,h.ok⟩
structure QryV where
 aa:Option Addr
 (an ac:Nat)
 ba:Option Addr
 (bn bc:Nat)
 mode:Int
 sa:Option Addr
 (sn sc:Nat)
 every:Int
 kind:Int
 name:ByteArray
 wa:Option Addr
 (wn wc:Nat)
 (fr till:Int)
 la:Option Addr
 (ln lc:Nat)
 ha:Option Addr
 (hn hc:Nat)
 oa:Option Addr
 (on oc:Nat)
 limit:Int
def QryV.cells (q:QryV):Array Value:= #[.slice q.aa q.an q.ac,.slice q.ba q.bn q.bc,.int .i64 q.mode,.slice q.sa q.sn q.sc,.int .i64 q.every,.int .i64 q.kind,.string q.name,.slice q.wa q.wn q.wc,.int .i64 q.fr,.int .i64 q.till,.slice q.la q.ln q.lc,.slice q.ha q.hn q.hc,.slice q.oa q.on q.oc,.int .i64 q.limit]
def QryV.ord (q:QryV):Value:= .slice q.oa q.on q.oc
structure LnV where
 st:Int
 tm:Int
 ka:Option Addr
 (kn kc:Nat)
 na:Option Addr
 (nn nc:Nat)
def LnV.cells (l:LnV):Array Value:= #[.int .i64 l.st,.int .i64 l.tm,.slice l.ka l.kn l.kc,.slice l.na l.nn l.nc]
def LnIs (w:World) (v:LnV) (l:LineD):Prop:=LineIs w (.slice v.ka v.kn v.kc) (.slice v.na v.nn v.nc) l
theorem LnIs.below {w w':World} {v:LnV} {l:LineD} (h:LnIs w v l) (hb:Below w.heap.size w w'):LnIs w' v l:=LineIs.below h hb
def W3 (q:QryV) (a b:LnV) (w:World):World:=((w.alloc (.cells q.cells 74)).alloc (.cells a.cells 37)).alloc (.cells b.cells 37)
theorem keys_any (q:QryV) (a b:LnV) (w:World):
  Calls Tryz.prog 54 #[.agg q.cells,.agg a.cells,.agg b.cells] w fun e w'=>e= .returned (.func (.func 102) #[] #[.pointer (some ⟨w.heap.size,0,none⟩),.pointer (some ⟨w.heap.size+1,0,none⟩),.pointer (some ⟨w.heap.size+1+1,0,none⟩)])∧w'=W3 q a b w:=by
 unfold W3 QryV.cells LnV.cells
 go_enter Tryz.func54,Tryz.ntmps54
 go_wp2
 go_ret
 refine ⟨rfl,?_⟩
 rfl
theorem stab_step {B:Nat} {p:World→Prop} (h:Stab B p) {X Y:World} (hs:p X) (hb:Below X.heap.size X Y):p Y:=
 h X Y none hs ⟨hb.os,hb.tape,hb.output,hb.size,fun i hi _=>hb.block i hi⟩ (fun r e=>by cases e)
theorem prot_below {n₀ lo hi:Nat} {X Y:World} (hb:Below X.heap.size X Y) (h1:n₀≤X.heap.size) (h2:hi≤X.heap.size):Prot n₀ lo hi X Y:=⟨hb.size,fun k h=>hb.block k (by omega),fun k _ h=>hb.block k (by omega)⟩
theorem protN_put {n₀ lo hi B:Nat} {X Y:World} (h:ProtN n₀ lo hi B X Y) {p:Addr} (h1:n₀≤p.block) (h2:p.block<lo∨hi≤p.block) (h3:p.block<B) (u:Value):ProtN n₀ lo hi B X (Y.setCell p u):=
 h.trans ⟨by simp [World.setCell],fun k hk=>Below.heap_setCell Y p u k (by omega),fun k a c=>Below.heap_setCell Y p u k (by omega),fun k a c=>Below.heap_setCell Y p u k (by omega)⟩
def keyEnc (ks:List KeyD) (a b:LineD) (k:Nat):Array Value:= #[.int .i64 (byI (ks.getD k ⟨false,0,false⟩) a b)]
set_option maxHeartbeats 4000000 in
theorem keys_seq (q:QryV) (va vb:LnV) (ks:List KeyD) (a b:LineD) (b1 n₀ lo hi:Nat) (w0 w:World) (hb1:lo≤b1∧b1+2<hi) (hw:hi≤w.heap.size) (hn₀:n₀≤w.heap.size) (h0:w0.heap.size=n₀) (hB:Below w0.heap.size w0 w)
  (hks:KeysSl w0 q.ord ks) (hk6:ks.length≤1000000) (ha:LnIs w0 va a) (hb:LnIs w0 vb b)
  (c0:w.cell? ⟨b1,12,none⟩=some q.ord) (ca:∀i x,va.cells[i]? =some x→w.cell? ⟨b1+1,i,none⟩=some x) (cb:∀i x,vb.cells[i]? =some x→w.cell? ⟨b1+1+1,i,none⟩=some x):
  SeqN Tryz.prog 102 #[.pointer (some ⟨b1,0,none⟩),.pointer (some ⟨b1+1,0,none⟩),.pointer (some ⟨b1+1+1,0,none⟩)] (keyEnc ks a b) n₀ lo hi ks.length w:=by
 intro n l J Jx W hW hJ hJx hY h00
 have hzW:=hW.size
 have a0:w.cell? ⟨b1+1,0,none⟩=some (.int .i64 va.st):=ca 0 _ rfl
 have a1:w.cell? ⟨b1+1,1,none⟩=some (.int .i64 va.tm):=ca 1 _ rfl
 have a2:w.cell? ⟨b1+1,2,none⟩=some (.slice va.ka va.kn va.kc):=ca 2 _ rfl
 have a3:w.cell? ⟨b1+1,3,none⟩=some (.slice va.na va.nn va.nc):=ca 3 _ rfl
 have b0:w.cell? ⟨b1+1+1,0,none⟩=some (.int .i64 vb.st):=cb 0 _ rfl
 have bb1:w.cell? ⟨b1+1+1,1,none⟩=some (.int .i64 vb.tm):=cb 1 _ rfl
 have b2:w.cell? ⟨b1+1+1,2,none⟩=some (.slice vb.ka vb.kn vb.kc):=cb 2 _ rfl
 have b3:w.cell? ⟨b1+1+1,3,none⟩=some (.slice vb.na vb.nn vb.nc):=cb 3 _ rfl
 clear ca cb
 replace a0:=cell_step a0 hW;replace a1:=cell_step a1 hW;replace a2:=cell_step a2 hW;replace a3:=cell_step a3 hW
 replace b0:=cell_step b0 hW;replace bb1:=cell_step bb1 hW;replace b2:=cell_step b2 hW;replace b3:=cell_step b3 hW
 replace c0:=cell_step c0 hW
 have HB0:=hid (hB.trans (hW.mono hB.size))
 obtain ⟨oo,oc,he,o1,o2,o3,o4⟩:=hks.parts
 unfold QryV.ord at he c0
 rw [he] at c0
 unfold maxLen at o2
 have HO:=hid o4
 have BY:=hid (fun k W (h:LowEq w0 W)=>by_any k va.st va.tm vb.st vb.tm _ _ _ _ a b W (LineIs.low ha h) (LineIs.low hb h))
 clear hks he hB hW o4 ha hb
 obtain ⟨as1,at1,aka,akn,akc,ana,ann,anc⟩:=va
 obtain ⟨bs1,bt1,bka,bkn,bkc,bna,bnn,bnc⟩:=vb
 dsimp only at*
 refine (callsIn_wide (n:=n+1)).1 (callsIn_of_wp Tryz.func102 rfl trivial ?_ rfl)
 simp only [Tryz.ntmps102,List.size_toArray,List.length_cons,List.length_nil,Nat.reduceAdd,Nat.reduceSub,Array.replicate_succ,Array.replicate_zero,List.push_toArray,List.append_toArray,List.nil_append,List.cons_append]
 gi_wp2
 gi_loopw [11] (fun iv wr=>∃k:Nat,k≤ks.length∧iv= .int .i64 (k:Int)∧J k wr∧Prot n₀ lo hi W wr) (fun iv _=>(ks.length-(intOf iv).toNat))
 case atStart=>exact ⟨0,Nat.zero_le _,rfl,h00,Prot.refl _ _ _ _⟩
 case round=>
  obtain ⟨k,hk,rfl,hJs,hP⟩:=hrel
  have hk0:(0:Int)≤(k:Int):=Int.natCast_nonneg _
  have go:∀{i o:Nat} {x:Value},i<3→W.cell? ⟨b1+i,o,none⟩=some x→wr.cell? ⟨b1+i,o,none⟩=some x:=fun hi hc=>(hP.cell (.inr (by omega))).trans hc
  have a0:=go (i:=1) (by omega) a0;have a1:=go (i:=1) (by omega) a1;have a2:=go (i:=1) (by omega) a2;have a3:=go (i:=1) (by omega) a3
  have b0:=go (i:=1+1) (by omega) b0;have bb1:=go (i:=1+1) (by omega) bb1;have b2:=go (i:=1+1) (by omega) b2;have b3:=go (i:=1+1) (by omega) b3
  rw [←Nat.add_assoc] at b0 bb1 b2 b3
  have hl1:b1+1<wr.heap.size:=World.block_lt_of_cell? _ _ a0
  have hl2:b1+1+1<wr.heap.size:=World.block_lt_of_cell? _ _ b0
  by_cases hlt:k<ks.length
  ·have hltI:(k:Int)<(ks.length:Int):=by omega
   obtain ⟨B,off,rfl,hc⟩:=HO.out (by omega)
   obtain ⟨p0,p1,p2⟩:=hc k hlt
   have hblt:B<n₀:=by rw [←h0];exact World.block_lt_of_cell? _ _ p0
   have go2:∀{o:Nat} {x:Value},w0.cell? ⟨B,o,none⟩=some x→wr.cell? ⟨B,o,none⟩=some x:=fun hc=>(hP.cell (.inl hblt)).trans (cell_step hc HB0.out)
   replace p0:=go2 p0;replace p1:=go2 p1;replace p2:=go2 p2
   have hwr:LowEq w0 wr:=fun i hi=>(hP.low i (by omega)).trans (HB0.out.block i hi)
   have BK:=hid (fun W (h:Below wr.heap.size wr W)=>BY.out ks[k] W (fun i hi=>(h.block i (by have:=hP.size;have:=hzW;omega)).trans (hwr i hi)))
   have hJD:=hJ k
   have hJN:=hJ (k+1)
   obtain ⟨kd,hkd⟩:∃x,ks[k]=x:=⟨_,rfl⟩
   have hget:ks.getD k ⟨false,0,false⟩=kd:=by rw [List.getD_eq_getElem?_getD,List.getElem?_eq_getElem hlt];exact hkd
   rw [hkd] at p0 p1 p2 BK
   have HY:=hid (fun W hW hJ=>hY k hlt W hW hJ)
   unfold keyEnc at HY
   rw [hget] at HY
   generalize byI kd a b=r at*
   generalize kd.agg=g1 at*;generalize kd.pos=g2 at*;generalize kd.desc=g3 at*
   have HP:=hid hP;have HJ:=hid hJs
   clear hY hJx hJ hc hP hJs go go2 BY hkd hget HB0 hJN hwr
   have HJS:=hid (fun Y (h:Below wr.heap.size wr Y)=>stab_step (hJD) HJ.out h)
   have HPB:=hid (fun Y (h:Below wr.heap.size wr Y)=>prot_below (n₀:=n₀) (lo:=lo) (hi:=hi) h (by have:=HP.out.size;omega) (by have:=HP.out.size;omega))
   clear hJD
   gi_wp2_with ((refine ⟨trivial,((callsIn_wide (n:=_)).2 (BK.out _ Gr)).mono ?_⟩);rintro e w4 ⟨rfl,hb4⟩;have hb5:Below wr.heap.size wr w4:=Gr;obtain ⟨fn,tmps,assign,body,hy,hR⟩:=HY.out w4 (by have:=HP.out.size;have:=hb5.size;omega) (HJS.out _ hb5);(try dsimp only at hy))
   refine hR.mono ?_
   rintro e W3 (⟨rfl,hJ3,hP3⟩|⟨rfl,hJx3,hP3⟩)
   ·gi_wp2
    go_roundw
    case rel=>exact ⟨k+1,hlt,by go_num,hJ3,HP.out.trans ((HPB.out _ hb5).trans hP3.prot)⟩
    case measure=>simp [intOf];omega
   ·gi_wp2
    refine bodyPost_ret (results_none rfl _ _ _) rfl ?_
    exact ⟨⟨_,rfl⟩,.inr ⟨k,hlt,hJx3⟩⟩
  ·obtain rfl:k=ks.length:=by omega
   have hge:¬((ks.length:Int)<(ks.length:Int)):=by omega
   clear hY hJ hJx go
   gi_wp2
   go_end0
   exact ⟨⟨_,rfl⟩,.inl hJs⟩
theorem cmpK_at {ks:List KeyD} {a b:LineD}:∀{k:Nat} (hk:k<ks.length),(∀j,j<k→byI (ks.getD j ⟨false,0,false⟩) a b=0)→byI (ks.getD k ⟨false,0,false⟩) a b≠0→cmpK ks a b=byI (ks.getD k ⟨false,0,false⟩) a b:=by
 induction ks with
 |nil=>intro k hk;simp at hk
 |cons x l ih=>
  intro k hk h1 h2
  unfold cmpK
  cases k with
  |zero=>exact if_neg h2
  |succ k=>
   rw [if_pos (show byI x a b=0 from h1 0 (by omega))]
   exact ih (by simpa using hk) (fun j hj=>h1 (j+1) (by omega)) h2
theorem cmpK_zero {ks:List KeyD} {a b:LineD} (h:∀j,j<ks.length→byI (ks.getD j ⟨false,0,false⟩) a b=0):cmpK ks a b=0:=by
 induction ks with
 |nil=>rfl
 |cons x l ih=>
  unfold cmpK
  rw [if_pos (show byI x a b=0 from h 0 (by simp))]
  exact ih fun j hj=>h (j+1) (by simp;omega)
theorem cell_blk {W:World} {b i:Nat} {cs:Array Value} {T:TypeId} {x:Value} (h:W.heap[b]? =some (.cells cs T (0,0))) (hx:cs[i]? =some x):W.cell? ⟨b,i,none⟩=some x:=by
 simp [World.cell?,h,hx]
theorem seq_W3 (q:QryV) (va vb:LnV) (ks:List KeyD) (a b:LineD) (w X:World) (hB:Below w.heap.size w X) (hks:KeysSl w q.ord ks) (hk6:ks.length≤1000000) (ha:LnIs w va a) (hb:LnIs w vb b):
  SeqN Tryz.prog 102 #[.pointer (some ⟨X.heap.size,0,none⟩),.pointer (some ⟨X.heap.size+1,0,none⟩),.pointer (some ⟨X.heap.size+1+1,0,none⟩)] (keyEnc ks a b) w.heap.size X.heap.size (X.heap.size+3) ks.length (W3 q va vb X):=by
 have hz:(W3 q va vb X).heap.size=X.heap.size+3:=by unfold W3;simp
 have e0:(W3 q va vb X).heap[X.heap.size]? =some (.cells q.cells 74 (0,0)):=by unfold W3;rw [heap_past (by simp;omega),heap_past (by simp)];exact heap_at rfl
 have e1:(W3 q va vb X).heap[X.heap.size+1]? =some (.cells va.cells 37 (0,0)):=by unfold W3;rw [heap_past (by simp)];exact heap_at (by simp)
 have e2:(W3 q va vb X).heap[X.heap.size+1+1]? =some (.cells vb.cells 37 (0,0)):=by unfold W3;exact heap_at (by simp)
 refine keys_seq q va vb ks a b X.heap.size _ _ _ w _ ⟨by omega,by omega⟩ (by omega) (by have:=hB.size;omega) rfl (by unfold W3;exact ((hB.alloc (by have:=hB.size;omega) _).alloc (by have:=hB.size;simp;omega) _).alloc (by have:=hB.size;simp;omega) _) hks hk6 ha hb (cell_blk e0 rfl) (fun i x h=>cell_blk e1 h) (fun i x h=>cell_blk e2 h)
def cmpJ (ks:List KeyD) (a b:LineD) (w:World) (k:Nat) (X:World):Prop:=
 X.heap[w.heap.size+1+1+1]? =some (.cells #[.int .i64 0] 3 (0,0))∧Below w.heap.size w X∧(∀j,j<k→byI (ks.getD j ⟨false,0,false⟩) a b=0)
def cmpX (ks:List KeyD) (a b:LineD) (w:World) (c:Code) (k:Nat) (X:World):Prop:=
 X.heap[w.heap.size+1+1+1]? =some (.cells #[.int .i64 (cmpK ks a b)] 3 (0,0))∧Below w.heap.size w X∧c= .exit 0
set_option maxHeartbeats 4000000 in
theorem compareL_any (q:QryV) (va vb:LnV) (ks:List KeyD) (a b:LineD) (w:World) (hks:KeysSl w q.ord ks) (hk6:ks.length≤1000000) (ha:LnIs w va a) (hb:LnIs w vb b):
  Calls Tryz.prog 25 #[.agg q.cells,.agg va.cells,.agg vb.cells] w fun e w'=>e= .returned (.int .i64 (cmpK ks a b))∧Below w.heap.size w w':=by
 have KA:=hid (fun W=>keys_any q va vb W)
 have KS:=hid (fun X hB=>seq_W3 q va vb ks a b w X hB hks hk6 ha hb)
 have HK:=hid hk6
 clear hks ha hb
 refine calls_marks Tryz.func25 rfl ?_
 simp only [Tryz.ntmps25,List.size_toArray,List.length_cons,List.length_nil,Nat.reduceAdd,Nat.reduceSub,Array.replicate_succ,Array.replicate_zero,List.push_toArray,List.append_toArray,List.nil_append,List.cons_append]
 unfold QryV.cells LnV.cells at KA ⊢
 go_wp2
 refine wp_scope_straight ?_
 go_wp2
 refine wp_label ?_
 go_wp2_with (go_at_call 54;((with_reducible refine (KA.out _).mono ?_);rintro e w1 ⟨rfl,rfl⟩))
 obtain ⟨X,hX⟩:∃X,(((w.alloc (.cells q.cells 74)).alloc (.cells va.cells 37)).alloc (.cells vb.cells 37)).alloc (.cells #[.int .i64 0] 3)=X:=⟨_,rfl⟩
 have hX2:=hX
 unfold QryV.cells LnV.cells at hX2
 rw [hX2]
 clear hX2
 have hzX:X.heap.size=w.heap.size+1+1+1+1:=by rw [←hX];simp
 have hBX:Below w.heap.size w X:=by rw [←hX];exact Gr
 have hFX:X.heap[w.heap.size+1+1+1]? =some (.cells #[.int .i64 0] 3 (0,0)):=by rw [←hX];exact heap_at (by simp)
 have HS:=KS.out X hBX
 rw [hzX] at HS
 have hzW:(W3 q va vb X).heap.size=w.heap.size+1+1+1+1+3:=by unfold W3;simp [hzX]
 have hBW:Below w.heap.size w (W3 q va vb X):=by unfold W3;exact ((hBX.alloc (by omega) _).alloc (by simp;omega) _).alloc (by simp;omega) _
 have hFW:(W3 q va vb X).heap[w.heap.size+1+1+1]? =some (.cells #[.int .i64 0] 3 (0,0)):=by
  unfold W3;rw [heap_past (by simp;omega),heap_past (by simp;omega),heap_past (by omega)];exact hFX
 clear KA KS hX hBX hFX
 generalize W3 q va vb X=Y at*
 refine wp_rangeN (gf:=102) (lb:= #[.pointer (some ⟨w.heap.size+1+1+1+1,0,none⟩),.pointer (some ⟨w.heap.size+1+1+1+1+1,0,none⟩),.pointer (some ⟨w.heap.size+1+1+1+1+1+1,0,none⟩)]) rfl (enters_of Tryz.func102 (by kernel_rfl) rfl)
  HS ⟨by omega,by omega⟩ (fun _=>rfl) (cmpJ ks a b w) (cmpX ks a b w) ?stab ?stabx ?start ?round ?done ?stop
 case stab=>exact fun k=>Stab.and Stab.block (Stab.and (Stab.below (Nat.le_refl _) (by omega)) (Stab.pure _))
 case stabx=>exact fun c k=>Stab.and Stab.block (Stab.and (Stab.below (Nat.le_refl _) (by omega)) (Stab.pure _))
 case start=>exact ⟨hFW,hBW,fun j hj=>absurd hj (Nat.not_lt_zero j)⟩
 case done=>
  intro D X' hD hI hK
  obtain ⟨hF,hbel,hz⟩:=hI
  have hc:=cmpK_zero hz
  have HC0:=hid hc
  clear hc
  have c0:=cell_of_one hF
  go_wp2
  (try rw [Exit.noGoto_ret])
  refine ret_mark (.inl rfl) hK fun w' hT=> ?_
  exact ⟨_,by simp only [results,Tryz.results25];go_simp;try rfl,by rw [HC0.out],(Stab.below (Nat.le_refl _) (Nat.le_refl _)).turn hbel hT (by omega)⟩
 case stop=>
  rintro D c k X' hD hk ⟨hF,hbel,rfl⟩ hK
  have c0:=cell_of_one hF
  go_wp2
  (try rw [Exit.noGoto_ret])
  refine ret_mark (.inl rfl) hK fun w' hT=> ?_
  exact ⟨_,by simp only [results,Tryz.results25];go_simp;try rfl,rfl,(Stab.below (Nat.le_refl _) (Nat.le_refl _)).turn hbel hT (by omega)⟩
 case round=>
  intro l' k X' hkN hI hl2 hlt hX
  obtain ⟨hF,hbel,hz⟩:=hI
  unfold keyEnc
  have HC:=hid (fun h=>cmpK_at (a:=a) (b:=b) hkN hz h)
  obtain ⟨r,hr⟩:∃r,byI (ks.getD k ⟨false,0,false⟩) a b=r:=⟨_,rfl⟩
  have HR:=hid hr
  rw [hr] at HC ⊢
  clear hr
  have HZ:=hid hz
  clear hz
  gi_wp2
  refine ⟨ProtN.refl _ _ _ _ _,fun W2 hT=> ?_⟩
  have hF2:=(hT.block (by omega) (by omega)).trans hF
  have hbel2:Below w.heap.size w W2:=(Stab.below (Nat.le_refl _) (Nat.le_refl _)).turn hbel hT (by omega)
  have c0:=cell_of_one hF2;have c1:=free_of_one hF2
  by_cases h0:r=0
  ·subst h0
   gi_wp2
   refine ⟨protN_put (ProtN.refl _ _ _ _ _) (by dsimp only;omega) (by dsimp only;omega) (by dsimp only;omega) _,heap_set_same hF2,hbel2.setCell (by dsimp only;omega) _,fun j hj=> ?_⟩
   by_cases hjk:j<k
   ·exact HZ.out j hjk
   ·obtain rfl:j=k:=by omega
    exact HR.out
  ·have HC1:=HC.out h0
   have h0b:(r==0)=false:=by simpa using h0
   gi_wp2
   refine ⟨protN_put (ProtN.refl _ _ _ _ _) (by dsimp only;omega) (by dsimp only;omega) (by dsimp only;omega) _,(by rw [HC1];exact heap_set_same hF2),hbel2.setCell (by dsimp only;omega) _,rfl⟩
theorem index_any (v:Value) (l:List ByteArray) (x:ByteArray) (w:World) (hv:StrsSl w v l) (hl:l.length≤1000):
  Calls Tryz.prog 173 #[v,.string x] w fun e w'=>e= .returned (.int .i64 (Lib.idxOfS l x))∧w=w':=by
 obtain ⟨ao,cap,rfl,h1,_,_⟩:=SlAt.shape hv
 by_cases h0:0<l.length
 ·obtain ⟨b,off,rfl,hc⟩:=(SlAt.parts hv).2.2.2.2 (by simpa using h0)
  refine (Tryz.slices_Index_string b off l.length cap l x w (Nat.le_refl _) (by omega) (fun j hj=>hc j _ ?_)).mono fun e w' ⟨he,hw⟩=>⟨?_,hw.symm⟩
  ·rw [List.getElem?_map,List.getElem?_eq_getElem hj,List.getD_eq_getElem?_getD,List.getElem?_eq_getElem hj];rfl
  ·rw [he,List.take_length]
 ·obtain rfl:l=[]:=List.length_eq_zero_iff.1 (by omega)
  exact (Tryz.slices_Index_string_empty ao cap x w).mono fun e w' ⟨he,hw⟩=>⟨he,hw.symm⟩
theorem idx_is (l:List ByteArray) (x:ByteArray):(Lib.idxOfS l x= -1∧∀i (hi:i<l.length),(l[i].toList==x.toList)=false)∨(∃k,∃hk:k<l.length,Lib.idxOfS l x=(k:Int)∧l[k]=x∧(l[k].toList==x.toList)=true∧∀i (hi:i<k),((l[i]'(Nat.lt_trans hi hk)).toList==x.toList)=false):=by
 have hne:∀a:ByteArray,¬a=x→(a.toList==x.toList)=false:=fun a h=>by
  rw [ByteArray.toList_eq,ByteArray.toList_eq]
  simp
  intro e
  exact h (ByteArray.ext e)
 have H:∀n,n≤l.length→(∀i (hi:i<l.length),i<n→¬l[i]=x)∨(∃j,∃hj:j<l.length,l[j]=x∧∀i (hi:i<j),¬(l[i]'(Nat.lt_trans hi hj))=x):=by
  intro n
  induction n with
  |zero=>intro _;exact .inl fun i hi h=>absurd h (Nat.not_lt_zero i)
  |succ n ih=>
   intro hn
   rcases ih (by omega) with h|h
   ·by_cases hg:(l[n]'(by omega))=x
    ·exact .inr ⟨n,by omega,hg,fun i hi=>h i (by omega) hi⟩
    ·refine .inl fun i hi hin=> ?_
     by_cases e:i=n
     ·subst e;exact hg
     ·exact h i hi (by omega)
   ·exact .inr h
 have hgd:∀i (hi:i<l.length),l.getD i ByteArray.empty=l[i]:=fun i hi=>by rw [List.getD_eq_getElem?_getD,List.getElem?_eq_getElem hi];rfl
 rcases H l.length (Nat.le_refl _) with h|⟨k,hk,he,h⟩
 ·refine .inl ⟨?_,fun i hi=>hne _ (h i hi hi)⟩
  have:=Lib.idxOfS_miss l l.length x (fun j hj=>by rw [hgd j hj];exact h j hj hj)
  rwa [List.take_length] at this
 ·refine .inr ⟨k,hk,?_,he,by rw [he];simp,fun i hi=>hne _ (h i hi)⟩
  have:=Lib.idxOfS_hit l l.length k x hk (Nat.le_refl _) (by rw [hgd k hk];exact he) (fun j hj=>by rw [hgd j (by omega)];exact h j hj)
  rwa [List.take_length] at this
def placeI (rs:Bool) (r:Int):Int:=if rs=true∧0≤r then r else 0
def placeB (rs:Bool) (r:Int):Bool:=rs&&decide (0≤r)
set_option maxHeartbeats 1000000 in
theorem place_any (vd vm vl:Value) (ds ms l:List ByteArray) (g:Int) (x:ByteArray) (w:World) (hd:StrsSl w vd ds) (hm:StrsSl w vm ms) (td:Texts ds) (tm:Texts ms) (hl:StrsSl w vl l) (tl:Texts l):
  Calls Tryz.prog 126 #[.agg #[vd,vm,.int .i64 g],vl,.string x] w fun e w'=>e= .returned (.tuple #[.int .i64 (placeI (rightS ds ms g) (Lib.idxOfS l x)),.bool (placeB (rightS ds ms g) (Lib.idxOfS l x))])∧Below w.heap.size w w':=by
 have HR:=hid (fun W (h:Below w.heap.size w W)=>right_any vd vm ds ms g W (hd.below h) (hm.below h) td tm)
 have HX:=hid (fun W (h:Below w.heap.size w W)=>index_any vl l x W (hl.below h) tl.1)
 obtain ⟨ad,cd,rfl,_,_,_⟩:=SlAt.shape hd
 obtain ⟨am,cm,rfl,_,_,_⟩:=SlAt.shape hm
 obtain ⟨al,cl,rfl,_,_,_⟩:=SlAt.shape hl
 have hr:=idx_is l x
 have hr2:Lib.idxOfS l x= -1∨∃k:Nat,Lib.idxOfS l x=k:=by
  rcases hr with ⟨h,_⟩|⟨k,_,h,_⟩
  ·exact .inl h
  ·exact .inr ⟨k,h⟩
 clear hr hd hm hl td tm tl
 generalize ds.length=nd at*
 generalize ms.length=nm at*
 generalize l.length=nl at*
 generalize rightS ds ms g=rs at*
 generalize Lib.idxOfS l x=r at*
 cases rs with
 |false=>
  have hI:placeI false r=0:=by simp [placeI]
  have hB:placeB false r=false:=by simp [placeB]
  rw [hI,hB]
  clear hI hB hr2
  go_enter Tryz.func126,Tryz.ntmps126
  go_wp2_with (first
   |(go_at_call 173;((with_reducible refine (HX.out _ Gr).mono ?_);rintro e w1 ⟨rfl,rfl⟩))
   |(go_at_call 55;((with_reducible refine (HR.out _ Gr).mono ?_);rintro e w2 ⟨rfl,hb2⟩)))
  go_ret2
  exact ⟨rfl,Gr⟩
 |true=>
  rcases hr2 with rfl|⟨k,rfl⟩
  ·have hI:placeI true (-1)=0:=by simp [placeI]
   have hB:placeB true (-1)=false:=by simp [placeB]
   rw [hI,hB]
   clear hI hB
   go_enter Tryz.func126,Tryz.ntmps126
   go_wp2_with (first
    |(go_at_call 173;((with_reducible refine (HX.out _ Gr).mono ?_);rintro e w1 ⟨rfl,rfl⟩))
    |(go_at_call 55;((with_reducible refine (HR.out _ Gr).mono ?_);rintro e w2 ⟨rfl,hb2⟩)))
   go_ret2
   exact ⟨rfl,Gr⟩
  ·have hI:placeI true (k:Int)=(k:Int):=by simp [placeI]
   have hB:placeB true (k:Int)=true:=by simp [placeB]
   rw [hI,hB]
   clear hI hB
   have hk:decide ((k:Int)<0)=false:=by simp
   go_enter Tryz.func126,Tryz.ntmps126
   go_wp2_with (first
    |(go_at_call 173;((with_reducible refine (HX.out _ Gr).mono ?_);rintro e w1 ⟨rfl,rfl⟩))
    |(go_at_call 55;((with_reducible refine (HR.out _ Gr).mono ?_);rintro e w2 ⟨rfl,hb2⟩)))
   go_ret2
   exact ⟨rfl,Gr⟩
theorem dim_any (vd vm:Value) (ds ms:List ByteArray) (g:Int) (x:ByteArray) (w:World) (hd:StrsSl w vd ds) (hm:StrsSl w vm ms) (td:Texts ds) (tm:Texts ms):
  Calls Tryz.prog 114 #[.agg #[vd,vm,.int .i64 g],.string x] w fun e w'=>e= .returned (.tuple #[.int .i64 (placeI (rightS ds ms g) (Lib.idxOfS ds x)),.bool (placeB (rightS ds ms g) (Lib.idxOfS ds x))])∧Below w.heap.size w w':=by
 have HP:=hid (fun W (h:Below w.heap.size w W)=>place_any vd vm vd ds ms ds g x W (hd.below h) (hm.below h) td tm (hd.below h) td)
 obtain ⟨ad,cd,rfl,_,_,_⟩:=SlAt.shape hd
 obtain ⟨am,cm,rfl,_,_,_⟩:=SlAt.shape hm
 clear hd hm td tm
 generalize placeI (rightS ds ms g) (Lib.idxOfS ds x)=pi at*
 generalize placeB (rightS ds ms g) (Lib.idxOfS ds x)=pb at*
 generalize ds.length=nd at*
 generalize ms.length=nm at*
 go_enter Tryz.func114,Tryz.ntmps114
 go_wp2_with (go_at_call 126;((with_reducible refine (HP.out _ Gr).mono ?_);rintro e w1 ⟨rfl,hb1⟩))
 go_ret2
 exact ⟨rfl,Gr⟩
theorem metric_any (vd vm:Value) (ds ms:List ByteArray) (g:Int) (x:ByteArray) (w:World) (hd:StrsSl w vd ds) (hm:StrsSl w vm ms) (td:Texts ds) (tm:Texts ms):
  Calls Tryz.prog 64 #[.agg #[vd,vm,.int .i64 g],.string x] w fun e w'=>e= .returned (.tuple #[.int .i64 (placeI (rightS ds ms g) (Lib.idxOfS ms x)),.bool (placeB (rightS ds ms g) (Lib.idxOfS ms x))])∧Below w.heap.size w w':=by
 have HP:=hid (fun W (h:Below w.heap.size w W)=>place_any vd vm vm ds ms ms g x W (hd.below h) (hm.below h) td tm (hm.below h) tm)
 obtain ⟨ad,cd,rfl,_,_,_⟩:=SlAt.shape hd
 obtain ⟨am,cm,rfl,_,_,_⟩:=SlAt.shape hm
 clear hd hm td tm
 generalize placeI (rightS ds ms g) (Lib.idxOfS ms x)=pi at*
 generalize placeB (rightS ds ms g) (Lib.idxOfS ms x)=pb at*
 generalize ds.length=nd at*
 generalize ms.length=nm at*
 go_enter Tryz.func64,Tryz.ntmps64
 go_wp2_with (go_at_call 126;((with_reducible refine (HP.out _ Gr).mono ?_);rintro e w1 ⟨rfl,hb1⟩))
 go_ret2
 exact ⟨rfl,Gr⟩
set_option maxHeartbeats 1000000 in
theorem refPlace_any (vl:Value) (l:List ByteArray) (x:ByteArray) (w:World) (hl:StrsSl w vl l) (tl:Texts l):
  Calls Tryz.prog 138 #[vl,.string x] w fun e w'=>e= .returned (.tuple #[.int .i64 (placeI true (Lib.idxOfS l x)),.bool (placeB true (Lib.idxOfS l x))])∧w=w':=by
 obtain ⟨J,hJ,hpre,hat,hI,hB⟩:∃J,J≤l.length∧(∀i (hi:i<l.length),i<J→(l[i].toList==x.toList)=false)∧(∀hj:J<l.length,(l[J].toList==x.toList)=true)∧placeI true (Lib.idxOfS l x)=(if J<l.length then (J:Int) else 0)∧placeB true (Lib.idxOfS l x)=decide (J<l.length):=by
  rcases idx_is l x with ⟨h,h2⟩|⟨k,hk,h,_,h2,h3⟩
  ·exact ⟨l.length,Nat.le_refl _,fun i hi _=>h2 i hi,fun h=>absurd h (Nat.lt_irrefl _),by rw [h];simp [placeI],by rw [h];simp [placeB]⟩
  ·exact ⟨k,by omega,fun i _ hi=>h3 i hi,fun _=>h2,by rw [h];simp [placeI,hk],by rw [h];simp [placeB,hk]⟩
 rw [hI,hB]
 clear hI hB
 have HPRE:=hid hpre;have HAT:=hid hat;have HV:=hid hl
 obtain ⟨al,cl,rfl,_,hcl,_⟩:=SlAt.shape hl
 have tl1:=tl.1
 clear hpre hat hl tl
 obtain ⟨N,hN⟩:∃N,l.length=N:=⟨_,rfl⟩
 have HN:=hid hN
 rw [hN] at hJ tl1 ⊢
 simp only [hN] at HV
 clear hN
 go_enter Tryz.func138,Tryz.ntmps138
 go_wp2
 go_loop [6] (fun i=>∃k:Nat,k≤J∧i= .int .i64 k) (fun i=>N-(intOf i).toNat)
 case atStart=>exact ⟨0,Nat.zero_le _,rfl⟩
 case round=>
  obtain ⟨k,hk,rfl⟩:=hrel
  by_cases hkN:k<N
  ·have hlen:k<l.length:=by rw [HN.out];exact hkN
   have hp:=SlAt.parts HV.out
   obtain ⟨b,off,rfl,hcell⟩:=hp.2.2.2.2 (by simp;omega)
   have ck:=hcell k (.string l[k]) (by rw [List.getElem?_map,List.getElem?_eq_getElem hlen];rfl)
   clear hcell hp
   by_cases hkJ:k<J
   ·have hq:=HPRE.out k hlen hkJ
    generalize l[k]=s at*
    go_wp2
    go_round
    case rel=>exact ⟨k+1,hkJ,by go_num⟩
    case measure=>simp [intOf];omega
   ·obtain rfl:k=J:=by omega
    have hq:=HAT.out hlen
    generalize l[k]=s at*
    have H1:Hid ((if k<N then (k:Int) else 0)=(k:Int)):=if_pos hkN
    have H2:Hid (decide (k<N)=true):=decide_eq_true hkN
    clear hcl
    go_wp2
    go_ret2
    exact ⟨by first|rfl|rw [H1.out,H2.out],rfl⟩
  ·have H1:Hid ((if J<N then (J:Int) else 0)=0):=if_neg (by omega)
   have H2:Hid (decide (J<N)=false):=decide_eq_false (by omega)
   go_wp2
   go_ret2
   exact ⟨by first|rfl|rw [H1.out,H2.out],rfl⟩
theorem placeI_false (r:Int):placeI false r=0:=by simp [placeI]
theorem placeB_false (r:Int):placeB false r=false:=by simp [placeB]
set_option maxHeartbeats 1000000 in
theorem refDim_any (vd vm:Value) (ds ms:List ByteArray) (g:Int) (x:ByteArray) (w:World) (hd:StrsSl w vd ds) (hm:StrsSl w vm ms) (td:Texts ds) (tm:Texts ms):
  Calls Tryz.prog 131 #[.agg #[vd,vm,.int .i64 g],.string x] w fun e w'=>e= .returned (.tuple #[.int .i64 (placeI (rightS ds ms g) (Lib.idxOfS ds x)),.bool (placeB (rightS ds ms g) (Lib.idxOfS ds x))])∧Below w.heap.size w w':=by
 have HR:=hid (fun W (h:Below w.heap.size w W)=>refRight_any vd vm ds ms g W (hd.below h) (hm.below h) td tm)
 have HP:=hid (fun W (h:Below w.heap.size w W)=>refPlace_any vd ds x W (hd.below h) td)
 obtain ⟨ad,cd,rfl,_,_,_⟩:=SlAt.shape hd
 obtain ⟨am,cm,rfl,_,_,_⟩:=SlAt.shape hm
 clear hd hm td tm
 generalize Lib.idxOfS ds x=r at*
 generalize ds.length=nd at*
 generalize ms.length=nm at*
 generalize rightS ds ms g=rs at*
 cases rs with
 |false=>
  rw [placeI_false,placeB_false]
  go_enter Tryz.func131,Tryz.ntmps131
  go_wp2_with (go_at_call 69;((with_reducible refine (HR.out _ Gr).mono ?_);rintro e w1 ⟨rfl,hb1⟩;obtain ⟨hc1,hf1,hk1,hz1⟩:=bcell3 hb1;(try simp only [World.size_alloc,World.size_drew] at hz1);have:w.heap.size<w1.heap.size:=(by omega)))
  go_ret2
  exact ⟨rfl,Gr⟩
 |true=>
  generalize placeI true r=pi at*
  generalize placeB true r=pb at*
  go_enter Tryz.func131,Tryz.ntmps131
  go_wp2_with (first
   |(go_at_call 69;((with_reducible refine (HR.out _ Gr).mono ?_);rintro e w1 ⟨rfl,hb1⟩;obtain ⟨hc1,hf1,hk1,hz1⟩:=bcell3 hb1;(try simp only [World.size_alloc,World.size_drew] at hz1);have:w.heap.size<w1.heap.size:=(by omega)))
   |(go_at_call 138;((with_reducible refine (HP.out _ Gr).mono ?_);rintro e w2 ⟨rfl,rfl⟩)))
  go_ret2
  exact ⟨rfl,Gr⟩
set_option maxHeartbeats 1000000 in
theorem refMetric_any (vd vm:Value) (ds ms:List ByteArray) (g:Int) (x:ByteArray) (w:World) (hd:StrsSl w vd ds) (hm:StrsSl w vm ms) (td:Texts ds) (tm:Texts ms):
  Calls Tryz.prog 73 #[.agg #[vd,vm,.int .i64 g],.string x] w fun e w'=>e= .returned (.tuple #[.int .i64 (placeI (rightS ds ms g) (Lib.idxOfS ms x)),.bool (placeB (rightS ds ms g) (Lib.idxOfS ms x))])∧Below w.heap.size w w':=by
 have HR:=hid (fun W (h:Below w.heap.size w W)=>refRight_any vd vm ds ms g W (hd.below h) (hm.below h) td tm)
 have HP:=hid (fun W (h:Below w.heap.size w W)=>refPlace_any vm ms x W (hm.below h) tm)
 obtain ⟨ad,cd,rfl,_,_,_⟩:=SlAt.shape hd
 obtain ⟨am,cm,rfl,_,_,_⟩:=SlAt.shape hm
 clear hd hm td tm
 generalize Lib.idxOfS ms x=r at*
 generalize ds.length=nd at*
 generalize ms.length=nm at*
 generalize rightS ds ms g=rs at*
 cases rs with
 |false=>
  rw [placeI_false,placeB_false]
  go_enter Tryz.func73,Tryz.ntmps73
  go_wp2_with (go_at_call 69;((with_reducible refine (HR.out _ Gr).mono ?_);rintro e w1 ⟨rfl,hb1⟩;obtain ⟨hc1,hf1,hk1,hz1⟩:=bcell3 hb1;(try simp only [World.size_alloc,World.size_drew] at hz1);have:w.heap.size<w1.heap.size:=(by omega)))
  go_ret2
  exact ⟨rfl,Gr⟩
 |true=>
  generalize placeI true r=pi at*
  generalize placeB true r=pb at*
  go_enter Tryz.func73,Tryz.ntmps73
  go_wp2_with (first
   |(go_at_call 69;((with_reducible refine (HR.out _ Gr).mono ?_);rintro e w1 ⟨rfl,hb1⟩;obtain ⟨hc1,hf1,hk1,hz1⟩:=bcell3 hb1;(try simp only [World.size_alloc,World.size_drew] at hz1);have:w.heap.size<w1.heap.size:=(by omega)))
   |(go_at_call 138;((with_reducible refine (HP.out _ Gr).mono ?_);rintro e w2 ⟨rfl,rfl⟩)))
  go_ret2
  exact ⟨rfl,Gr⟩
def cutS (n:Nat) (s:ByteArray):ByteArray:=s.extract 0 (min s.size n)
theorem cutS_size (n:Nat) (s:ByteArray):(cutS n s).size≤n:=by unfold cutS;rw [ByteArray.size_extract];omega
theorem cutS_is (n:Nat) (s:ByteArray):s.extract 0 (min (s.size:Int) (n:Int)).toNat=cutS n s:=by
 unfold cutS
 rw [show (min (s.size:Int) (n:Int)).toNat=min s.size n by omega]
def valCut (v:ValD):ValD:=⟨cutS 110 v.s,v.nl⟩
def valsCut (l:List ValD):List ValD:=(l.take 10).map valCut
theorem info_val:(Tryz.prog.info? 65).map (fun i=>(i.zero,i.size,i.bytes))=some (some (.agg #[.string { data:= #[]},.bool false]),2,24):=by kernel_rfl
set_option maxHeartbeats 2000000 in
theorem vals_any (v:Value) (l:List ValD) (w:World) (hv:ValsSl w v l) (hl:∀v∈l,v.s.size≤9223372036854775807):
  Calls Tryz.prog 24 #[v] w fun e w'=>∃v',e= .returned v'∧w'.ownsRow w.heap.size 65 2 v' (valsCut l).length ((valsCut l).flatMap ValD.cells)∧Below w.heap.size w w':=by
 obtain ⟨i0,hi,hiz0,hiz1,hiz2⟩:=info_parts info_val
 obtain ⟨ao,cap,rfl,h1,h2,h3,hA⟩:=ValsSl.parts hv
 have HA:=hid hA
 have HZ:=hid (fun i (hi:i<l.length)=>hl l[i] (List.getElem_mem hi))
 clear hl
 obtain ⟨N,hN⟩:∃N,min l.length 10=N:=⟨_,rfl⟩
 have HN:=hid hN
 have HLn:Hid ((valsCut l).length=N):=by unfold Hid;rw [←hN];simp [valsCut,Nat.min_comm]
 rw [HLn.out]
 have HT:Hid (∀k (hk:k<l.length),k<N→((l.take (k+1)).map valCut).flatMap ValD.cells=((l.take k).map valCut).flatMap ValD.cells++[.string (cutS 110 l[k].s),.bool l[k].nl]):=fun k hk _=>by
  rw [List.take_succ_eq_append_getElem hk,List.map_append,List.flatMap_append]
  rfl
 obtain ⟨R,hR⟩:∃R,(valsCut l).flatMap ValD.cells=R:=⟨_,rfl⟩
 rw [hR]
 have HE:Hid (((l.take N).map valCut).flatMap ValD.cells=R):=by
  unfold Hid
  rw [←hR]
  unfold valsCut
  congr 2
  rw [←hN]
  by_cases h:l.length≤10
  ·rw [List.take_of_length_le (by omega),List.take_of_length_le h]
  ·rw [show min l.length 10=10 by omega]
 clear hA hv HLn hR
 unfold maxLen at h2
 obtain ⟨L,hL⟩:∃L,l.length=L:=⟨_,rfl⟩
 have HL:=hid hL
 have hN10:N≤10:=by omega
 have hNL:N≤L:=by omega
 have hcase:N=L∨N=10:=by omega
 have HCS:=hid hcase
 rw [hL] at h1 ⊢
 clear hL hN hcase
 go_enter Tryz.func24,Tryz.ntmps24
 go_wp2
 go_loopw [3,4] (fun o i wr=>∃k:Nat,k≤N∧i= .int .i64 k∧wr.ownsRow w.heap.size 65 2 o k (((l.take k).map valCut).flatMap ValD.cells)∧Below w.heap.size w wr) (fun _ i _=>N-(intOf i).toNat)
 case atStart=>exact ⟨0,Nat.zero_le _,rfl,by simpa using World.ownsRow_nil _ _ _ _,Below.refl _ _⟩
 case round=>
  obtain ⟨k,hk,rfl,hown,hbel⟩:=hrel
  by_cases hkN:k<N
  ·have hlen:k<l.length:=by rw [HL.out];omega
   obtain ⟨b,off,rfl,hc⟩:=HA.out (by omega)
   obtain ⟨c1,c2⟩:=hc k hlen
   have hblt:b<w.heap.size:=World.block_lt_of_cell? _ _ c1
   have d1:=cell_step c1 hbel
   have d2:=cell_step c2 hbel
   have hz:=HZ.out k hlen
   have ht:=HT.out k hlen hkN
   generalize l[k].s=s at*
   generalize l[k].nl=bl at*
   have HT2:=hid ht;have HB:=hid hbel;have HO:=hid hown
   clear ht hbel hown hc c1 c2
   have g1:(0:Int)≤(k:Int):=Int.natCast_nonneg _
   have g2:(k:Int)<(L:Int):=by omega
   have g3:k<L:=by omega
   have g4:k<10:=by omega
   obtain ⟨W0,hW0⟩:∃W0,wr=W0:=⟨_,rfl⟩
   rw [hW0] at HB HO d1 d2 ⊢
   clear hW0
   have im:=ite_min
   have q1:(0:Int)≤min (s.size:Int) 110:=by omega
   have q2:min (s.size:Int) 110≤(s.size:Int):=by omega
   have q3:s.extract 0 (min (s.size:Int) 110).toNat=cutS 110 s:=cutS_is 110 s
   go_wp2
   go_region_held3 (fun w'=>w'.cell? ⟨b,off+k*2,none⟩=some (.string s)∧w'.cell? ⟨b,off+k*2+1,none⟩=some (.bool bl)) (first|exact ⟨e0,e1⟩|go_keep) ((first
    |(refine step_append_sl _ (by rfl) _ _ _ (by rfl) w.heap.size 65 i0 (.agg #[.string { data:= #[]},.bool false]) 2 24 Tryz.underlying34 hi hiz0 hiz1 hiz2 rfl (by decide) _ k _ (by rfl) ((HO.out.alloc _).drew) (.slice (some ⟨W0.heap.size,0,none⟩) 1 1) 1 [.string (cutS 110 s),.bool bl] (by rfl) ((SlAt.new W0 #[.string (cutS 110 s),.bool bl] 65).drew) (by simp [Value.oneCell']) (by unfold maxLen;omega) (by omega) (by have:=HB.out.size;go_size) ?_;intro v1 w1 hown1 hgrow1 hb1;have e0:w1.cell? ⟨b,off+k*2,none⟩=some (.string s):=own_far ((HO.out.alloc _).drew) hgrow1 hblt (by go_simp);have e1:w1.cell? ⟨b,off+k*2+1,none⟩=some (.bool bl):=own_far ((HO.out.alloc _).drew) hgrow1 hblt (by go_simp);have hB1:Below w.heap.size w w1:=own_below ((HO.out.alloc _).drew) hgrow1 (by have:=HB.out;exact Gr) (Nat.le_refl _))))
   have hown2:w1.ownsRow w.heap.size 65 2 v1 (k+1) (((l.take (k+1)).map valCut).flatMap ValD.cells):=by rw [HT2.out];exact hown1
   have HO2:=hid hown2;have HB2:=hid hB1
   clear hown1 hown2 hgrow1 hb1 hB1
   go_wp2
   go_roundw
   case rel=>exact ⟨k+1,by omega,by go_num,HO2.out,HB2.out⟩
   case measure=>simp [intOf];omega
  ·obtain rfl:k=N:=by omega
   rw [HE.out] at hown
   have HO:=hid hown;have HB:=hid hbel
   clear hown hbel
   rcases HCS.out with h|h
   ·subst h
    go_wp2
    go_ret
    exact ⟨u3,rfl,HO.out,HB.out⟩
   ·subst h
    by_cases h10:L=10
    ·subst h10
     go_wp2
     go_ret
     exact ⟨u3,rfl,HO.out,HB.out⟩
    ·have h11:10<L:=by omega
     clear h10
     go_wp2
     go_ret
     exact ⟨u3,rfl,HO.out,HB.out⟩
end Go.Proofs.YtejleplhmkmegaaGreatDoor
namespace Go
section
variable {P:Program} {ops:Array Oper} {Q:Exit→Act→World→Prop} {md:Region.Mode} {S:World→Prop} {E:Nat→Bool}
def needsB (md:Region.Mode) (ops:Array Oper):Nat→Nat→Nat→Bool
 |0,_,_=>false
 |f+1,j,i=>match ops[j]? with
  |none=>false
  |some oj=>oj.after.any fun e=>Region.binds md e&&(e.on==i||needsB md ops f e.on i)
def ClosedL (md:Region.Mode) (ops:Array Oper) (listed:Array Bool):Prop:=∀j oj,ops[j]? =some oj→listed.getD j false=true→∀e∈oj.after,Region.binds md e=true→listed.getD e.on false=true
theorem ClosedL.set {listed:Array Bool} {i:Nat} (h:ClosedL md ops listed) (hi:i∈Region.ready md ops listed):ClosedL md ops (listed.setIfInBounds i true):=by
 obtain ⟨_,oi,hoi,hall⟩:=mem_ready.1 hi
 intro j oj hj hl e he hb
 by_cases hij:i=j
 ·subst hij
  have:oj=oi:=Option.some.inj (hj.symm.trans hoi)
  subst this
  exact getD_set_true (hall e he hb)
 ·rw [getD_set_ne false hij] at hl
  exact getD_set_true (h j oj hj hl e he hb)
theorem needs_listed {listed:Array Bool} {i:Nat} (hcl:ClosedL md ops listed):∀(f j:Nat),needsB md ops f j i=true→(∀oj,ops[j]? =some oj→∀e∈oj.after,Region.binds md e=true→listed.getD e.on false=true)→listed.getD i false=true
 |0,_,h,_=>by simp [needsB] at h
 |f+1,j,h,ha=>by
  unfold needsB at h
  split at h
  ·cases h
  ·rename_i oj hoj
   obtain ⟨e,he,hb⟩:=Array.any_eq_true'.1 h
   simp only [Bool.and_eq_true,Bool.or_eq_true,beq_iff_eq] at hb
   have hl:=ha oj hoj e he hb.1
   rcases hb.2 with h2|h2
   ·rw [←h2];exact hl
   ·exact needs_listed hcl f e.on h2 (fun ok hk e' he' hb'=>hcl e.on ok hk hl e' he' hb')
def exE (EX:List Nat) (j:Nat):Bool:=EX.contains j
def wpMix (P:Program) (md:Region.Mode) (ops:Array Oper) (Q:Exit→Act→World→Prop) (S:World→Prop) (E:Nat→Bool):Nat→Array Bool→Act→World→Prop
 |0,listed,a,w=>Region.ready md ops listed=[]∧Q .normal a w
 |fuel+1,listed,a,w=>
  (Region.ready md ops listed=[]→Q .normal a w)∧
  ∀i∈Region.ready md ops listed,wpOp P ops Q i (fun a' w'=>(E i=false→S w')∧wpMix P md ops Q S E fuel (listed.setIfInBounds i true) a' w') a w
theorem wpAny_of_some:∀(fuel:Nat) (listed:Array Bool) (a:Act) (w:World),wpMix P md ops Q S E fuel listed a w→wpAny P md ops Q fuel listed a w
 |0,_,_,_,h=>h
 |fuel+1,_,_,_,h=>⟨h.1,fun i hi=>wpOp_mono (fun a' w' h'=>wpAny_of_some fuel _ a' w' h'.2) (h.2 i hi)⟩
theorem wp_region_some {id:Nat} {l:List Oper} {a:Act} {w:World} (S:World→Prop) (EX:List Nat) (hm:P.follows .mixedOrders=true)
  (h:wpMix P .any l.toArray Q S (exE EX) l.length (Array.replicate l.length false) a w.drew):(Code.region id l.toArray true).wp P Q a w:=
 wp_region_any hm (wpAny_of_some (S:=S) (E:=exE EX) _ _ _ _ (by simpa using h))
theorem wpMix_first {i:Nat} {oi:Oper} {v:Value} {T:World→Prop} (hi:ops[i]? =some oi) (hsel:∀(j:Nat) (o:Oper) cs b,ops[j]? =some o→o.op≠ .select cs b)
  (hQ:∀c a w,Q (.panic c) (a.put oi.dst v) w→Q (.panic c) a w) (hTS:∀w,T w→E i=false→S w) (hST:∀w,S w→T w):
  ∀(fuel:Nat) (listed:Array Bool) (a:Act) (w:World),ClosedL md ops listed→((∀w,T w)∨∀j,E j=true→listed.getD j false=true∨∃f,needsB md ops f j i=true)→
   (∀j oj,ops[j]? =some oj→j≠i→listed.getD j true=false→(∀e∈oj.after,Region.binds md e=true→e.on≠i)→oi.apart ops oj=true)→
   i∈Region.ready md ops listed→YieldsIf P ops T oi v a→T w→
   wpMix P md ops Q S E fuel (listed.setIfInBounds i true) (a.put oi.dst v) w→wpMix P md ops Q S E (fuel+1) listed a w:=by
 intro fuel
 induction fuel with
 |zero=>
  intro listed a w _ _ _ hr hy hS H
  refine ⟨fun h=>(by rw [h] at hr;cases hr),fun j hj=> ?_⟩
  by_cases hji:j=i
  ·subst hji;exact hy.wpOp hi hS ⟨hTS w hS,H⟩
  ·have:=ready_mono hj hji
   rw [H.1] at this
   cases this
 |succ fuel ih=>
  intro listed a w hcl hET hfree hr hy hS H
  refine ⟨fun h=>(by rw [h] at hr;cases hr),fun j hj=> ?_⟩
  by_cases hji:j=i
  ·subst hji;exact hy.wpOp hi hS ⟨hTS w hS,H⟩
  ·have h1:=H.2 j (ready_mono hj hji)
   obtain ⟨hjun,oj,hoj,hall⟩:=mem_ready.1 hj
   have hun:listed.getD i false=false:=getD_both (mem_ready.1 hr).1
   have hnot:∀e∈oj.after,Region.binds md e=true→e.on≠i:=fun e he hb heq=>by
    have h1:=hall e he hb
    rw [heq,hun] at h1
    cases h1
   have h2:=wpOp_putIf hoj (hfree j oj hoj hji hjun hnot) (fun cs b=>hsel i oi cs b hi) (fun cs b=>hsel j oj cs b hoj) hQ hy h1
   have hfree':∀k ok,ops[k]? =some ok→k≠i→(listed.setIfInBounds j true).getD k true=false→
     (∀e∈ok.after,Region.binds md e=true→e.on≠i)→oi.apart ops ok=true:=fun k ok hk hki hun hno=>by
    refine hfree k ok hk hki ?_ hno
    by_cases hjk:j=k
    ·subst hjk;exact hjun
    ·rw [getD_set_ne true hjk] at hun;exact hun
   have hTw:∀w',(E j=false→S w')→T w':=fun w' hw'=>by
    rcases hET with h|h
    ·exact h w'
    ·cases hEj:E j with
     |false=>exact hST w' (hw' hEj)
     |true=>
      rcases h j hEj with h|⟨f,h⟩
      ·rw [getD_both hjun] at h;cases h
      ·have h3:=needs_listed hcl f j h (fun ok hk e he hb=>by
        have:ok=oj:=Option.some.inj (hk.symm.trans hoj)
        subst this
        exact hall e he hb)
       rw [hun] at h3
       cases h3
   refine wpOp_mono (fun a' w' h3=>⟨h3.2.1,ih (listed.setIfInBounds j true) a' w' (hcl.set hj) (hET.imp_right fun h k hk=>(h k hk).imp_left getD_set_true) hfree' (ready_mono hr (Ne.symm hji)) h3.1 (hTw w' h3.2.1) ?_⟩) h2
   rw [Array.setIfInBounds_comm _ _ hji]
   exact h3.2.2
def closedB (md:Region.Mode) (ops:Array Oper) (listed:Array Bool):Bool:=
 (List.range ops.size).all fun j=> !listed.getD j false||match ops[j]? with
  |some oj=>oj.after.all fun e=> !Region.binds md e||listed.getD e.on false
  |none=>true
theorem closedB_spec {listed:Array Bool} (h:closedB md ops listed=true):ClosedL md ops listed:=by
 intro j oj hj hl e he hb
 unfold closedB at h
 rw [List.all_eq_true] at h
 have h1:=h j (List.mem_range.2 (Array.getElem?_eq_some_iff.1 hj).1)
 simp only [hj,hl,Bool.not_true,Bool.false_or] at h1
 have:=Array.all_eq_true_iff_forall_mem.1 h1 e he
 simpa [hb] using this
theorem wpMix_take {EX:List Nat} {i:Nat} {oi:Oper} {v:Value} {fuel:Nat} {listed:Array Bool} {a:Act} {w:World} (hi:ops[i]? =some oi)
  (hB:(Region.noSelect ops&&(closedB md ops listed&&(Region.free md ops listed i&&((Region.ready md ops listed).contains i&&EX.all fun j=>listed.getD j false||needsB md ops ops.size j i))))=true)
  (hQ:∀c a w,Q (.panic c) (a.put oi.dst v) w→Q (.panic c) a w) (hy:YieldsIf P ops S oi v a) (hS:S w)
  (h:wpMix P md ops Q S (exE EX) fuel (listed.setIfInBounds i true) (a.put oi.dst v) w):wpMix P md ops Q S (exE EX) (fuel+1) listed a w:=by
 simp only [Bool.and_eq_true] at hB
 obtain ⟨hs,hc,hf,hr,hE⟩:=hB
 refine wpMix_first (T:=S) hi (Region.noSelect_spec hs) hQ (fun _ h _=>h) (fun _ h=>h) fuel listed a w (closedB_spec hc) (.inr fun j hj=> ?_) (Region.free_spec hi hf) (by simpa using hr) hy hS h
 have:=List.all_eq_true.1 hE j (by simpa [exE] using hj)
 rw [Bool.or_eq_true] at this
 exact this.imp_right fun h=>⟨_,h⟩
theorem Tk {EX:List Nat} (i:Nat) {oi:Oper} {v:Value} {fuel:Nat} {listed l':Array Bool} {a a':Act} {w:World} (hS:S w)
  (h:wpMix P md ops Q S (exE EX) fuel l' a' w) (hi:ops[i]? =some oi:=by rfl)
  (hB:(Region.noSelect ops&&(closedB md ops listed&&(Region.free md ops listed i&&((Region.ready md ops listed).contains i&&EX.all fun j=>listed.getD j false||needsB md ops ops.size j i))))=true:=by kernel_rfl)
  (hQ:∀c a w,Q (.panic c) (a.put oi.dst v) w→Q (.panic c) a w:=by exact fun _ _ _ h=>h) (hg:Region.wanted oi (yielded ops a.tmps)=true:=by rfl) (hv:∀w,S w→(execOp a.eval oi).run P w= .ok (.value v) w:=by (intro w hSw;(try dsimp only at hSw);go_simp;try (with_reducible rfl)))
  (ha:a.put oi.dst v=a':=by (first|(simp only [Act.put,List.setIfInBounds_toArray,List.set_cons_zero,List.set_cons_succ];done)|(simp only [Act.put,List.setIfInBounds_toArray,List.set_cons_zero,List.set_cons_succ];rfl)))
  (hl:listed.setIfInBounds i true=l':=by (first|(simp only [List.setIfInBounds_toArray,List.set_cons_zero,List.set_cons_succ];done)|(simp only [List.setIfInBounds_toArray,List.set_cons_zero,List.set_cons_succ];rfl)|rfl)):wpMix P md ops Q S (exE EX) (fuel+1) listed a w:=by
 subst ha hl
 exact wpMix_take hi hB hQ (Or.inl ⟨hg,hv⟩) hS h
theorem Ol:(∀(f:Nat→List Oper) a l,(a::l).flatMap f=f a++l.flatMap f)∧(∀f:Nat→List Oper,[].flatMap f=[])∧(∀(a:Oper) l n,(a::l).take (n+1)=a::l.take n)∧(∀l:List Oper,l.take 0=[])∧(∀(a:Oper) l n,(a::l).drop (n+1)=l.drop n)∧(∀l:List Oper,l.drop 0=l)∧(∀l:List Oper,l++[]=l)∧(∀(a:Oper) l m,(a::l)++m=a::(l++m))∧(∀l:List Oper,[]++l=l):=
 ⟨fun _ _ _=>List.flatMap_cons,fun _=>List.flatMap_nil,fun _ _ _=>List.take_succ_cons,fun _=>List.take_zero,fun _ _ _=>List.drop_succ_cons,fun _=>List.drop_zero,fun _=>List.append_nil _,fun _ _ _=>List.cons_append,fun _=>List.nil_append _⟩
theorem wpMix_free {EX:List Nat} {i:Nat} {oi:Oper} {v:Value} {fuel:Nat} {listed:Array Bool} {a:Act} {w:World} (hi:ops[i]? =some oi)
  (hB:(Region.noSelect ops&&(closedB md ops listed&&(Region.free md ops listed i&&((Region.ready md ops listed).contains i&&EX.contains i))))=true)
  (hQ:∀c a w,Q (.panic c) (a.put oi.dst v) w→Q (.panic c) a w) (hy:YieldsIf P ops (fun _=>True) oi v a)
  (h:wpMix P md ops Q S (exE EX) fuel (listed.setIfInBounds i true) (a.put oi.dst v) w):wpMix P md ops Q S (exE EX) (fuel+1) listed a w:=by
 simp only [Bool.and_eq_true] at hB
 obtain ⟨hs,hc,hf,hr,hE⟩:=hB
 exact wpMix_first (T:=fun _=>True) hi (Region.noSelect_spec hs) hQ (fun _ _ h=>by unfold exE at h;rw [hE] at h;cases h) (fun _ _=>trivial) fuel listed a w (closedB_spec hc) (.inl fun _=>trivial) (Region.free_spec hi hf) (by simpa using hr) hy trivial h
def opsAt (l:List Oper) (T:List Nat):List Oper:=T.flatMap fun t=>(l.drop t).take 1
def NextS (P:Program) (md:Region.Mode) (ops:Array Oper) (Q:Exit→Act→World→Prop) (S:World→Prop) (E:Nat→Bool) (fuel:Nat) (listed:Array Bool):Exit→Act→World→Prop
 | .normal,a,w=>S w∧wpMix P md ops Q S E fuel listed a w
 |e,a,w=>Q e a w
theorem opsAt_one {l:List Oper} {t:Nat} {o:Oper} (h:l.toArray[t]? =some o):opsAt l [t]=[o]:=by
 have h2:l[t]? =some o:=by simpa using h
 obtain ⟨hlt,he⟩:=List.getElem?_eq_some_iff.1 h2
 unfold opsAt
 rw [List.flatMap_cons,List.flatMap_nil,List.append_nil,List.drop_eq_getElem_cons hlt,List.take_succ_cons,List.take_zero,he]
theorem wpOp_of_list {l:List Oper} {t:Nat} {a:Act} {w:World} {Q':Exit→Act→World→Prop} (ht:t<l.length) (hp:∀e a w,e≠ .normal→Q' e a w→Q e a w) (hlo:LetsOut Q'→LetsOut Q)
  (h:wpList P l.toArray Q' (opsAt l [t]) a w):wpOp P l.toArray Q t (Q' .normal) a w:=by
 have h0:l.toArray[t]? =some l[t]:=by simp [ht]
 rw [opsAt_one h0] at h
 unfold wpOp
 simp only [h0]
 have h':(if Region.wanted l[t] (yielded l.toArray a.tmps) then l[t].wp P a w (wpList P l.toArray Q' []) Q'∨(l[t].asks P a w∧LetsOut Q') else wpList P l.toArray Q' [] (a.put l[t].dst undef) w):=h
 split
 ·rename_i hw
  rw [if_pos hw] at h'
  rcases h' with h'|⟨h1,h2⟩
  ·refine .inl ?_
   unfold Oper.wp at*
   generalize (execOp a.eval l[t]).run P w=r at*
   cases r with
   |ok n w'=>
    cases n<;>simp only [Oper.upon] at h' ⊢
    case value u=>exact h'
    case skip=>exact h'
    case defer d=>exact h'
    case enter f args=>
     refine Calls.mono h' fun e w'' he=> ?_
     cases e with
     |returned u=>exact he
     |panicked c=>exact hp _ _ _ (by simp) he
     |outgrown=>exact hlo he
    case row row args=>exact Rows.mono h' fun u w'' he=>he
   |halt x w'=>
    cases x<;>simp only [Oper.upon] at h' ⊢
    case panic u=>exact hp _ _ _ (by simp) h'
  ·exact .inr ⟨h1,hlo h2⟩
 ·rename_i hw
  rw [if_neg hw] at h'
  exact h'
theorem wpMix_next {EX:List Nat} {l:List Oper} {t fuel:Nat} {listed:Array Bool} {a:Act} {w:World} (hB:(decide (t<l.length)&&(Region.ready md l.toArray listed==[t]))=true)
  (h:wpList P l.toArray (NextS P md l.toArray Q S (exE EX) fuel (listed.setIfInBounds t true)) (opsAt l [t]) a w):wpMix P md l.toArray Q S (exE EX) (fuel+1) listed a w:=by
 simp only [Bool.and_eq_true,decide_eq_true_eq,beq_iff_eq] at hB
 obtain ⟨ht,hr⟩:=hB
 refine ⟨fun h0=>(by rw [hr] at h0;cases h0),fun i hi=> ?_⟩
 rw [hr] at hi
 obtain rfl:i=t:=by simpa using hi
 refine wpOp_mono (fun a' w' h'=>⟨fun _=>h'.1,h'.2⟩) (wpOp_of_list (Q:=Q) (Q':=NextS P md l.toArray Q S (exE EX) fuel (listed.setIfInBounds i true)) ht (fun e a w hne h=> ?_) (fun ⟨a,w,h⟩=>⟨a,w,h⟩) h)
 cases e<;>first|exact absurd rfl hne|exact h
theorem wpMix_pick {EX:List Nat} {l:List Oper} {fuel:Nat} {listed:Array Bool} {a:Act} {w:World} (T:List Nat) (hB:((T.all fun t=>decide (t<l.length))&&(Region.ready md l.toArray listed==T))=true)
  (h:∀t∈T,wpList P l.toArray (NextS P md l.toArray Q S (exE EX) fuel (listed.setIfInBounds t true)) (opsAt l [t]) a w) (hT:T≠[]):wpMix P md l.toArray Q S (exE EX) (fuel+1) listed a w:=by
 simp only [Bool.and_eq_true,List.all_eq_true,decide_eq_true_eq,beq_iff_eq] at hB
 obtain ⟨ht,hr⟩:=hB
 refine ⟨fun h0=>absurd (hr.symm.trans h0) hT,fun i hi=> ?_⟩
 rw [hr] at hi
 refine wpOp_mono (fun a' w' h'=>⟨fun _=>h'.1,h'.2⟩) (wpOp_of_list (Q:=Q) (Q':=NextS P md l.toArray Q S (exE EX) fuel (listed.setIfInBounds i true)) (ht i hi) (fun e a w hne h=> ?_) (fun ⟨a,w,h⟩=>⟨a,w,h⟩) (h i hi))
 cases e<;>first|exact absurd rfl hne|exact h
theorem pick_two {P:Nat→Prop} {a b:Nat} (h1:P a) (h2:P b):∀t∈[a,b],P t:=by
 intro t ht
 simp only [List.mem_cons,List.not_mem_nil,or_false] at ht
 rcases ht with rfl|rfl
 ·exact h1
 ·exact h2
def restB (md:Region.Mode) (l:List Oper):List Nat→Array Bool→Bool
 |[],listed=>Region.ready md l.toArray listed==[]
 |t::T,listed=>decide (t<l.length)&&(Region.ready md l.toArray listed==[t])&&restB md l T (listed.setIfInBounds t true)
theorem wpAny_rest {l:List Oper}:∀(T:List Nat) (listed:Array Bool) (a:Act) (w:World),restB md l T listed=true→wpList P l.toArray Q (opsAt l T) a w→wpAny P md l.toArray Q T.length listed a w
 |[],listed,a,w,hB,h=>⟨by simpa [restB] using hB,h⟩
 |t::T,listed,a,w,hB,h=>by
  simp only [restB,Bool.and_eq_true,decide_eq_true_eq,beq_iff_eq] at hB
  obtain ⟨⟨ht,hr⟩,hB⟩:=hB
  refine ⟨fun h0=>(by rw [hr] at h0;cases h0),fun i hi=> ?_⟩
  rw [hr] at hi
  obtain rfl:i=t:=by simpa using hi
  have h0:l.toArray[i]? =some l[i]:=by simp [ht]
  have e:opsAt l (i::T)=l[i]::opsAt l T:=by
   have:=opsAt_one h0
   unfold opsAt at this ⊢
   simp only [List.flatMap_cons,List.flatMap_nil,List.append_nil] at this ⊢
   rw [this];rfl
  rw [e] at h
  have h':(if Region.wanted l[i] (yielded l.toArray a.tmps) then l[i].wp P a w (wpList P l.toArray Q (opsAt l T)) Q∨(l[i].asks P a w∧LetsOut Q) else wpList P l.toArray Q (opsAt l T) (a.put l[i].dst undef) w):=h
  have h2:wpOp P l.toArray Q i (wpList P l.toArray Q (opsAt l T)) a w:=by
   unfold wpOp
   simp only [h0]
   exact h'
  exact wpOp_mono (fun a' w' h3=>wpAny_rest T _ a' w' hB h3) h2
theorem wpMix_of_any {EX:List Nat}:∀(fuel:Nat) (listed:Array Bool) (a:Act) (w:World),(∀j,ops[j]? ≠none→listed.getD j true=false→EX.contains j=true)→wpAny P md ops Q fuel listed a w→wpMix P md ops Q S (exE EX) fuel listed a w
 |0,_,_,_,_,h=>h
 |fuel+1,listed,a,w,hE,h=>⟨h.1,fun i hi=>by
  have hri:=mem_ready.1 hi
  refine wpOp_mono (fun a' w' h'=>⟨fun he=> ?_,wpMix_of_any fuel _ a' w' (fun j hj hl=>hE j hj ?_) h'⟩) (h.2 i hi)
  ·obtain ⟨hl,oi,hoi,_⟩:=hri
   have:=hE i (by rw [hoi];simp) hl
   unfold exE at he
   rw [this] at he
   cases he
  ·by_cases hij:i=j
   ·subst hij
    exact hri.1
   ·rwa [getD_set_ne true hij] at hl⟩
theorem wpMix_rest {EX:List Nat} {l:List Oper} {fuel:Nat} {listed:Array Bool} {a:Act} {w:World} (T:List Nat) (hB:(restB md l T listed&&((T.length==fuel)&&(List.range l.length).all fun j=>listed.getD j true||EX.contains j))=true)
  (h:wpList P l.toArray Q (opsAt l T) a w):wpMix P md l.toArray Q S (exE EX) fuel listed a w:=by
 simp only [Bool.and_eq_true,beq_iff_eq] at hB
 obtain ⟨h1,h2,h3⟩:=hB
 subst h2
 refine wpMix_of_any _ _ _ _ (fun j hj hl=> ?_) (wpAny_rest T listed a w h1 h)
 have hlt:j<l.length:=by
  rcases Nat.lt_or_ge j l.length with h|h
  ·exact h
  ·exact absurd (by simp [h]) hj
 have:=List.all_eq_true.1 h3 j (List.mem_range.2 hlt)
 rw [hl,Bool.false_or] at this
 exact this
end
end Go
namespace Go.Proofs.YtejleplhmkmegaaGreatDoor
set_option linter.unusedVariables false
set_option linter.unusedSimpArgs false
set_option maxRecDepth 100000
open Go.ChangeShapes Go.WideShapes Go.ChangeAt Go.RowKit
theorem row_far {w:World} {base b o:Nat} {e:TypeId} {size:Nat} {v:Value} {n:Nat} {xs:List Value} (h:w.ownsRow base e size v n xs) (hb:b<base) {u:Value}:(w.setCell ⟨b,o,none⟩ u).ownsRow base e size v n xs:=by
 refine ⟨h.1,?_⟩
 rcases h.2 with h2|⟨g,cap,cur,hv,hg,hh,r⟩
 ·exact .inl h2
 ·exact .inr ⟨g,cap,cur,hv,hg,(heap_set_other (by omega)).trans hh,r⟩
theorem row_below {w w':World} {base:Nat} {e:TypeId} {size:Nat} {v:Value} {n:Nat} {xs:List Value} (h:w.ownsRow base e size v n xs) (hb:Below w.heap.size w w'):w'.ownsRow base e size v n xs:=
 h.kept (row:=none) ⟨hb.os,hb.tape,hb.output,hb.size,fun i hi _=>hb.block i hi⟩ (by cases v.ownBlock<;>simp)
theorem blk_below {w w':World} {b:Nat} {o:Obj} (h:w.heap[b]? =some o) (hb:Below w.heap.size w w'):w'.heap[b]? =some o:=(hb.block b (blk_lt h)).trans h
theorem IntsSl.take {w:World} {an:Option Addr} {cn:Nat} {xs:List Int} (h:IntsSl w (.slice an xs.length cn) xs) (k:Nat):IntsSl w (.slice an (min xs.length k) cn) (xs.take k):=by
 have h2:=SlAt.take h (k:=min xs.length k) (Nat.min_le_left _ _)
 have e:(xs.take k).length=min xs.length k:=by rw [List.length_take,Nat.min_comm]
 unfold IntsSl
 rw [e,List.map_take]
 rw [Nat.mul_one] at h2
 by_cases hk:k≤xs.length
 ·rw [Nat.min_eq_right hk] at h2 ⊢
  exact h2
 ·rw [Nat.min_eq_left (by omega)] at h2 ⊢
  rw [List.take_of_length_le (by simp)] at h2
  rw [List.take_of_length_le (by simp;omega)]
  exact h2
open Go.Fl
theorem info_num:(Tryz.prog.info? 63).map (fun i=>(i.zero,i.size,i.bytes))=some (some (.agg #[.bool false,.int .i64 0,.float .f64 0]),3,24):=by kernel_rfl
theorem txtc_snoc (c:Nat) {ss:List ByteArray} {k:Nat} (hk:k<ss.length):strsV ((ss.take (k+1)).map (cutS c))=strsV ((ss.take k).map (cutS c))++[.string (cutS c ss[k])]:=by
 rw [List.take_succ_eq_append_getElem hk,List.map_append]
 unfold strsV
 rw [List.map_append]
 rfl
set_option maxHeartbeats 2000000 in
theorem names15_any (vd:Value) (ss:List ByteArray) (w:World) (hd:StrsSl w vd ss) (td:∀s∈ss,s.size≤9223372036854775807):
  Calls Tryz.prog 22 #[vd] w fun e w'=>∃v1,e= .returned v1∧w'.ownsRow w.heap.size 9 1 v1 (min ss.length 10) (strsV ((ss.take 10).map (cutS 30)))∧Below w.heap.size w w':=by
 obtain ⟨i0,hi,hiz0,hiz1,hiz2⟩:=info_parts info_string
 have HD:=hid hd
 have HZD:=hid (fun i (hi:i<ss.length)=>td ss[i] (List.getElem_mem hi))
 obtain ⟨ad,cd,rfl,hcd,hcd2,_⟩:=SlAt.shape hd
 obtain ⟨LD,hLD⟩:∃L,ss.length=L:=⟨_,rfl⟩
 have HLD:=hid hLD
 obtain ⟨N,hN⟩:∃N,min LD 10=N:=⟨_,rfl⟩
 have HCN:Hid ((N=LD∨N=10)∧N≤LD∧N≤10):=by unfold Hid;omega
 obtain ⟨R,hR⟩:∃R,strsV ((ss.take 10).map (cutS 30))=R:=⟨_,rfl⟩
 have HR:Hid (strsV ((ss.take N).map (cutS 30))=R):=by
  unfold Hid
  rw [←hR,←hN]
  by_cases h:LD≤10
  ·rw [List.take_of_length_le (by omega),List.take_of_length_le (by omega)]
  ·rw [Nat.min_eq_right (by omega)]
 rw [hR]
 rw [hLD] at hcd ⊢
 rw [hN]
 clear hd td hLD hN hR
 unfold maxLen at hcd2
 go_enter Tryz.func22,Tryz.ntmps22
 go_wp2
 go_loopw [3,4] (fun o i wr=>∃k,k≤N∧i= .int .i64 (k:Nat)∧wr.ownsRow w.heap.size 9 1 o k (strsV ((ss.take k).map (cutS 30)))∧Below w.heap.size w wr) (fun _ i _=>N-(intOf i).toNat)
 case atStart=>exact ⟨0,Nat.zero_le _,rfl,World.ownsRow_nil _ _ _ _,Below.refl _ _⟩
 case round=>
  obtain ⟨k,hk,rfl,hown,hbel⟩:=hrel
  have g1:(0:Int)≤(k:Int):=Int.natCast_nonneg _
  by_cases hkN:k<N
  ·have hkL:k<LD:=by have:=HCN.out;omega
   have hkn:k<10:=by have:=HCN.out;omega
   have hlen:k<ss.length:=by rw [HLD.out];exact hkL
   obtain ⟨b,off,rfl,hcell⟩:=(SlAt.parts HD.out).2.2.2.2 (by simp;omega)
   have ck:=hcell k (.string ss[k]) (by rw [List.getElem?_map,List.getElem?_eq_getElem hlen];rfl)
   have dk:=cell_step ck hbel
   have hz:=HZD.out k hlen
   have HT:=hid (txtc_snoc 30 hlen)
   generalize ss[k]=s at*
   have z3:b<wr.heap.size:=World.block_lt_of_cell? _ _ dk
   have zW:=hbel.size
   have HB:=hid hbel;have HO:=hid hown
   clear hcell ck hbel hown
   have g2:(k:Int)<(LD:Int):=by omega
   have im:=ite_min
   have q1:(0:Int)≤min (s.size:Int) 30:=by omega
   have q2:min (s.size:Int) 30≤(s.size:Int):=by omega
   have q3:s.extract 0 (min (s.size:Int) 30).toNat=cutS 30 s:=cutS_is 30 s
   go_wp2
   have hS0:(fun w':World=>w'.cell? ⟨b,off+k,none⟩=some (.string s)) wr.drew:=dk
   refine wp_region_some (fun w':World=>w'.cell? ⟨b,off+k,none⟩=some (.string s)) [13,14] (by kernel_rfl) ?_
   refine Tk 0 hS0 ?_
   refine Tk 1 hS0 ?_
   refine Tk 2 hS0 ?_
   refine Tk 3 hS0 ?_
   refine Tk 4 hS0 ?_
   refine Tk 5 hS0 ?_
   refine Tk 6 hS0 ?_
   refine Tk 7 hS0 ?_
   refine Tk 8 hS0 ?_
   refine Tk 9 hS0 ?_
   refine Tk 10 hS0 ?_
   refine Tk 11 hS0 ?_
   refine wpMix_next (t:=12) (by kernel_rfl) ?_
   simp only [opsAt,Ol]
   go_wp2
   refine ⟨by go_simp,?_⟩
   refine wpMix_rest [13,14] (by kernel_rfl) ?_
   simp only [opsAt,Ol]
   go_wp2_with (at_builtin;go_loud (refine wpList_append_sl _ rfl _ _ 23 rfl w.heap.size 9 i0 (.string { data:= #[]}) 1 16 Tryz.underlying23 hi hiz0 hiz1 hiz2 rfl (by decide) _ k _ rfl ((HO.out.alloc _).drew) (.slice (some ⟨wr.heap.size,0,none⟩) 1 1) 1 [.string (cutS 30 s)] rfl ((SlAt.new wr #[.string (cutS 30 s)] 9).drew) (by simp [Value.oneCell']) (by unfold maxLen;omega) (by omega) (by simp;omega) ?_);intro v1 w1 hown1 hgrow1 hb1)
   go_roundw
   case rel=>exact ⟨k+1,hkN,by go_num,by rw [HT.out];exact hown1,own_below ((HO.out.alloc _).drew) hgrow1 (by have:=HB.out;exact Gr) (Nat.le_refl _)⟩
   case measure=>simp [intOf];omega
  ·obtain rfl:k=N:=by omega
   rw [HR.out] at hown
   have hex:LD=k∨(k<LD∧k=10):=by have:=HCN.out;omega
   have HEX:=hid hex;have HO:=hid hown;have HB:=hid hbel
   clear hex hown hbel
   rcases HEX.out with h|⟨h,h10⟩
   ·subst h
    by_cases h10:LD=10
    ·subst h10
     go_wp2
     go_ret
     exact ⟨_,rfl,HO.out,HB.out⟩
    ·go_wp2
     go_ret
     exact ⟨_,rfl,HO.out,HB.out⟩
   ·subst h10
    go_wp2
    go_ret
    exact ⟨_,rfl,HO.out,HB.out⟩
def SlS (S:Nat→Prop) (w:World) (v:Value) (n size:Nat) (cs:List Value):Prop:=
 cs.length=n*size∧∃ao cap,v= .slice ao n cap∧n≤cap∧cap≤maxLen∧(ao=none→cap=0)∧
  (0<cs.length→∃b off,ao=some ⟨b,off,none⟩∧S b∧∀j u,cs[j]? =some u→w.cell? ⟨b,off+j,none⟩=some u)
theorem SlS.sl {S:Nat→Prop} {w:World} {v:Value} {n size:Nat} {cs:List Value} (h:SlS S w v n size cs):SlAt w v n size cs:=by
 obtain ⟨h0,ao,cap,rfl,h1,h2,h3,h⟩:=h
 refine ⟨h0,ao,cap,rfl,h1,h2,h3,fun hl=> ?_⟩
 obtain ⟨b,off,rfl,_,hc⟩:=h hl
 exact ⟨b,off,rfl,hc⟩
theorem SlS.keep {S T:Nat→Prop} {w w':World} {v:Value} {n size:Nat} {cs:List Value} (h:SlS S w v n size cs) (hST:∀b,S b→T b) (hk:∀b,S b→b<w.heap.size→w'.heap[b]? =w.heap[b]?):SlS T w' v n size cs:=by
 obtain ⟨h0,ao,cap,rfl,h1,h2,h3,h⟩:=h
 refine ⟨h0,ao,cap,rfl,h1,h2,h3,fun hl=> ?_⟩
 obtain ⟨b,off,rfl,hs,hc⟩:=h hl
 refine ⟨b,off,rfl,hST b hs,fun j u hj=> ?_⟩
 have hx:=hc j u hj
 rw [←hx]
 simp only [World.cell?,hk b hs (World.block_lt_of_cell? _ _ hx)]
theorem SlS.own {w:World} {base:Nat} {e:TypeId} {size:Nat} {v:Value} {n:Nat} {xs:List Value} (h:w.ownsRow base e size v n xs):SlS (fun b=>v.ownBlock=some b) w v n size xs:=by
 have hk:=h
 refine ⟨h.1,?_⟩
 rcases h.2 with ⟨rfl,h0⟩|⟨g,cap,cur,rfl,_,_,h3,h4,_,_⟩
 ·subst h0
  exact ⟨none,0,rfl,Nat.le_refl _,by simp,fun _=>rfl,fun hl=>absurd h.1 (by simp;intro e;rw [e] at hl;simp at hl)⟩
 ·refine ⟨_,cap,rfl,h3,h4,(fun h=>by cases h),fun hl=>⟨g,0,rfl,rfl,fun j u hj=> ?_⟩⟩
  have hjl:j<xs.length:=(List.getElem?_eq_some_iff.1 hj).1
  rw [show 0+j=j from Nat.zero_add j,hk.cellAt j (by rw [←h.1];exact hjl),hj]
inductive FilD where
 |mk (kind:Int) (name:ByteArray) (words:List ByteArray) (fr till:Int) (l:List FilD)
def FilD.l:FilD→List FilD| .mk _ _ _ _ _ l=>l
def FilD.words:FilD→List ByteArray| .mk _ _ ws _ _ _=>ws
def FilS (S:Nat→Prop) (w:World):Nat→List Value→FilD→Prop
 |0,_,_=>False
 |d+1,cs,.mk k n ws fr till l=>∃(vw vl:Value) (rows:List (List Value)),cs=[.int .i64 k,.string n,vw,.int .i64 fr,.int .i64 till,vl]∧n.size≤9223372036854775807∧SlS S w vw ws.length 1 (strsV ws)∧(∀s∈ws,s.size≤9223372036854775807)∧
   rows.length=l.length∧(∀r∈rows,r.length=6)∧SlS S w vl l.length 6 rows.flatten∧∀i (hi:i<l.length) r,rows[i]? =some r→FilS S w d r l[i]
theorem FilS.keep {S T:Nat→Prop} {w w':World} (hST:∀b,S b→T b) (hk:∀b,S b→b<w.heap.size→w'.heap[b]? =w.heap[b]?):∀{d:Nat} {cs:List Value} {f:FilD},FilS S w d cs f→FilS T w' d cs f
 |0,_,_,h=>by simp [FilS] at h
 |d+1,cs,.mk k n ws fr till l,h=>by
  unfold FilS at h ⊢
  obtain ⟨vw,vl,rows,h1,h2,h3,h4,h5,h6,h7,h8⟩:=h
  exact ⟨vw,vl,rows,h1,h2,h3.keep hST hk,h4,h5,h6,h7.keep hST hk,fun i hi r hr=>(h8 i hi r hr).keep hST hk⟩
theorem FilS.below {S:Nat→Prop} {w w':World} {d:Nat} {cs:List Value} {f:FilD} (h:FilS S w d cs f) (hb:Below w.heap.size w w'):FilS S w' d cs f:=h.keep (fun _ h=>h) (fun b _ hl=>hb.block b hl)
theorem flatten_at {rows:List (List Value)} (h6:∀r∈rows,r.length=6):∀{i:Nat} {r:List Value},rows[i]? =some r→∀{j:Nat},j<6→rows.flatten[i*6+j]? =r[j]? :=by
 intro i r hr j hj
 obtain ⟨hi,he⟩:=List.getElem?_eq_some_iff.1 hr
 have e:rows.flatten=rows.flatMap id:=by simp [List.flatMap]
 clear hr
 induction rows generalizing i with
 |nil=>simp at hi
 |cons x l ih=>
  have hx:=h6 x (by simp)
  cases i with
  |zero=>
   simp only [List.getElem_cons_zero] at he
   subst he
   rw [List.flatten_cons,List.getElem?_append_left (by omega),Nat.zero_mul,Nat.zero_add]
  |succ i=>
   rw [List.flatten_cons,List.getElem?_append_right (by rw [hx,Nat.succ_mul];omega),hx,show (i+1)*6+j-6=i*6+j by rw [Nat.succ_mul];omega]
   exact ih (fun r hr=>h6 r (by simp [hr])) (by simpa using hi) (by simpa using he) (by simp [List.flatMap])
def cutF:Nat→FilD→FilD
 |0,.mk k n ws fr till _=> .mk k (cutS 30 n) ((ws.take 10).map (cutS 110)) fr till []
 |d+1,.mk k n ws fr till l=> .mk k (cutS 30 n) ((ws.take 10).map (cutS 110)) fr till ((l.take 10).map (cutF d))
theorem info_filter:(Tryz.prog.info? 29).map (fun i=>(i.zero,i.size,i.bytes))=some (some (.agg #[.int .i64 0,.string { data:= #[]},.slice none 0 0,.int .i64 0,.int .i64 0,.slice none 0 0]),6,88):=by kernel_rfl
end Go.Proofs.YtejleplhmkmegaaGreatDoor
