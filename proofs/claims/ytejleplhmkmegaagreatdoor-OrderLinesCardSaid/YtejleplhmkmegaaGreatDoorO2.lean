/- Texts joined: OuD, CopyR, RolH, RolQ, RolR, RolS, RolT, RolV, RolW. -/
import Derived.Test.YtejleplhmkmegaaGreatDoorOz
import Derived.Test.YtejleplhmkmegaaGreatDoorOa
import Derived.Laws.CopyOwn
import Derived.Test.YtejleplhmkmegaaGreatDoorOr
import Derived.Test.YtejleplhmkmegaaGreatDoorOf
import Derived.Test.YtejleplhmkmegaaGreatDoorOc
import Derived.Test.YtejleplhmkmegaaGreatDoorOd
import Derived.Test.YtejleplhmkmegaaGreatDoorOo
set_option linter.unusedVariables false
set_option linter.unusedSimpArgs false
namespace Go.Proofs.YtejleplhmkmegaaGreatDoor
set_option maxRecDepth 100000
open Go.ChangeShapes Go.WideShapes Go.ChangeAt Go.RowKit Go.Fl
attribute [local go_sem] run_store_float run_equalIn_float
theorem refHolds18_any (pos op n:Int) (v:NumD) (hn:I64 n) (hv:NumOk v) (w:World):
  Calls Tryz.prog 35 #[.agg #[.int .i64 pos,.int .i64 op,.int .i64 n],.agg #[.bool v.fl,.int .i64 v.n,.float .f64 v.f]] w fun e w'=>e= .returned (.bool (holdsB op n v))∧Below w.heap.size w w':=by
 have C:=hid (fun W=>refCompare18_any v ⟨n,false,0⟩ hv ⟨hn,show (0:Nat)<2^64 by decide⟩ W)
 unfold holdsB
 dsimp only at C
 generalize cmpN v ⟨n,false,0⟩=k at*
 generalize v.fl=x0 at*;generalize v.n=x1 at*;generalize v.f=x2 at*
 clear hv
 obtain ⟨r,hr⟩:∃r,condB op k=r:=⟨_,rfl⟩
 rw [hr]
 unfold condB at hr
 by_cases h1:op=1
 ·subst h1
  rw [if_pos rfl] at hr
  subst hr
  go_enter Tryz.func35,Tryz.ntmps35
  go_wp2_with (go_at_call 76;go_loud ((with_reducible refine (C.out _).mono ?_);rintro e w1 ⟨rfl,hb1⟩;obtain ⟨hc1,hf1,hk1,hz1⟩:=bcell3 hb1;(try simp only [World.size_alloc,World.size_drew] at hz1);have:w.heap.size<w1.heap.size:=(by omega);have:w.heap.size+1<w1.heap.size:=(by omega)))
  go_ret
  exact ⟨ret_bool (by simp),Gr⟩
 by_cases h2:op=2
 ·subst h2
  rw [if_neg h1,if_pos rfl] at hr
  subst hr
  go_enter Tryz.func35,Tryz.ntmps35
  go_wp2_with (go_at_call 76;go_loud ((with_reducible refine (C.out _).mono ?_);rintro e w1 ⟨rfl,hb1⟩;obtain ⟨hc1,hf1,hk1,hz1⟩:=bcell3 hb1;(try simp only [World.size_alloc,World.size_drew] at hz1);have:w.heap.size<w1.heap.size:=(by omega);have:w.heap.size+1<w1.heap.size:=(by omega)))
  go_ret
  exact ⟨ret_bool (by simp),Gr⟩
 by_cases h3:op=3
 ·subst h3
  rw [if_neg h1,if_neg h2,if_pos rfl] at hr
  subst hr
  go_enter Tryz.func35,Tryz.ntmps35
  go_wp2_with (go_at_call 76;go_loud ((with_reducible refine (C.out _).mono ?_);rintro e w1 ⟨rfl,hb1⟩;obtain ⟨hc1,hf1,hk1,hz1⟩:=bcell3 hb1;(try simp only [World.size_alloc,World.size_drew] at hz1);have:w.heap.size<w1.heap.size:=(by omega);have:w.heap.size+1<w1.heap.size:=(by omega)))
  go_ret
  exact ⟨ret_bool (by simp),Gr⟩
 by_cases h4:op=4
 ·subst h4
  rw [if_neg h1,if_neg h2,if_neg h3,if_pos rfl] at hr
  subst hr
  go_enter Tryz.func35,Tryz.ntmps35
  go_wp2_with (go_at_call 76;go_loud ((with_reducible refine (C.out _).mono ?_);rintro e w1 ⟨rfl,hb1⟩;obtain ⟨hc1,hf1,hk1,hz1⟩:=bcell3 hb1;(try simp only [World.size_alloc,World.size_drew] at hz1);have:w.heap.size<w1.heap.size:=(by omega);have:w.heap.size+1<w1.heap.size:=(by omega)))
  go_ret
  exact ⟨ret_bool (by simp),Gr⟩
 by_cases h5:op=5
 ·subst h5
  rw [if_neg h1,if_neg h2,if_neg h3,if_neg h4,if_pos rfl] at hr
  subst hr
  go_enter Tryz.func35,Tryz.ntmps35
  go_wp2_with (go_at_call 76;go_loud ((with_reducible refine (C.out _).mono ?_);rintro e w1 ⟨rfl,hb1⟩;obtain ⟨hc1,hf1,hk1,hz1⟩:=bcell3 hb1;(try simp only [World.size_alloc,World.size_drew] at hz1);have:w.heap.size<w1.heap.size:=(by omega);have:w.heap.size+1<w1.heap.size:=(by omega)))
  go_ret
  exact ⟨ret_bool (by simp),Gr⟩
 by_cases h6:op=6
 ·subst h6
  rw [if_neg h1,if_neg h2,if_neg h3,if_neg h4,if_neg h5,if_pos rfl] at hr
  subst hr
  go_enter Tryz.func35,Tryz.ntmps35
  go_wp2_with (go_at_call 76;go_loud ((with_reducible refine (C.out _).mono ?_);rintro e w1 ⟨rfl,hb1⟩;obtain ⟨hc1,hf1,hk1,hz1⟩:=bcell3 hb1;(try simp only [World.size_alloc,World.size_drew] at hz1);have:w.heap.size<w1.heap.size:=(by omega);have:w.heap.size+1<w1.heap.size:=(by omega)))
  go_ret
  exact ⟨ret_bool (by simp),Gr⟩
 rw [if_neg h1,if_neg h2,if_neg h3,if_neg h4,if_neg h5,if_neg h6] at hr
 subst hr
 have k1:(op==1)=false:=by simpa using h1
 have k2:(op==2)=false:=by simpa using h2
 have k3:(op==3)=false:=by simpa using h3
 have k4:(op==4)=false:=by simpa using h4
 have k5:(op==5)=false:=by simpa using h5
 have k6:(op==6)=false:=by simpa using h6
 go_enter Tryz.func35,Tryz.ntmps35
 go_wp2_with (go_at_call 76;go_loud ((with_reducible refine (C.out _).mono ?_);rintro e w1 ⟨rfl,hb1⟩;obtain ⟨hc1,hf1,hk1,hz1⟩:=bcell3 hb1;(try simp only [World.size_alloc,World.size_drew] at hz1);have:w.heap.size<w1.heap.size:=(by omega);have:w.heap.size+1<w1.heap.size:=(by omega)))
 go_ret
 exact ⟨rfl,Gr⟩
theorem SlAt.drop {w:World} {b off n cap size:Nat} {cs:List Value} (h:SlAt w (.slice (some ⟨b,off,none⟩) n cap) n size cs) {k:Nat} (hk:k≤n):SlAt w (.slice (some ⟨b,off+k*size,none⟩) (n-k) (cap-k)) (n-k) size (cs.drop (k*size)):=by
 obtain ⟨_,h1,h2,_,h4⟩:=h.parts
 have h0:=h.1
 have hle:k*size≤n*size:=Nat.mul_le_mul_right size hk
 refine ⟨by rw [List.length_drop,h0,Nat.sub_mul],_,_,rfl,by omega,by omega,(fun h=>by cases h),fun hl=> ?_⟩
 obtain ⟨b',o',e,hc⟩:=h4 (by simp at hl;omega)
 simp only [Option.some.injEq,Addr.mk.injEq] at e
 obtain ⟨rfl,rfl,_⟩:=e
 refine ⟨b,off+k*size,rfl,fun j u hj=> ?_⟩
 rw [List.getElem?_drop] at hj
 have:=hc _ _ hj
 rwa [Nat.add_assoc]
theorem SlAt.from {w:World} {ao:Option Addr} {n cap size:Nat} {cs:List Value} (h:SlAt w (.slice ao n cap) n size cs) (ho:0<n→∀a,ao=some a→a.spot=none) {k:Nat} (hk:k≤n):SlAt w (.slice (if cap=k then ao else ao.map fun a=>a.add (k*size)) (n-k) (cap-k)) (n-k) size (cs.drop (k*size)):=by
 obtain ⟨_,h1,h2,h3,h4⟩:=h.parts
 have h0:=h.1
 cases ao with
 |none=>
  obtain rfl:=h3 rfl
  obtain rfl:n=0:=by omega
  obtain rfl:k=0:=by omega
  have:cs=[]:=List.eq_nil_of_length_eq_zero (by simpa using h0)
  subst this
  exact ⟨by simp,none,0,by simp,Nat.le_refl _,by omega,fun _=>rfl,fun h=>by simp at h⟩
 |some a=>
  obtain ⟨b,off,s⟩:=a
  by_cases hn0:n=0
  ·subst hn0
   obtain rfl:k=0:=by omega
   have:cs=[]:=List.eq_nil_of_length_eq_zero (by simpa using h0)
   subst this
   refine ⟨by simp,_,_,rfl,Nat.zero_le _,by omega,fun h=> ?_,fun h=>by simp at h⟩
   split at h<;>simp at h
  obtain rfl:s=none:=ho (by omega) _ rfl
  by_cases hc:cap=k
  ·subst hc
   obtain rfl:n=cap:=by omega
   rw [if_pos rfl]
   have:cs.drop (n*size)=[]:=List.drop_eq_nil_of_le (by omega)
   rw [this,Nat.sub_self]
   exact ⟨by simp,_,0,rfl,Nat.le_refl _,by omega,(fun h=>by cases h),fun h=>by simp at h⟩
  ·rw [if_neg hc]
   have:=h.drop hk
   have e:(⟨b,off,none⟩:Addr).add (k*size)=⟨b,off+k*size,none⟩:=by unfold Addr.add;split<;>simp_all
   rw [Option.map_some,e]
   exact this
structure TurnO (T:List Nat) (w w':World):Prop where
 os:w'.os=w.os
 tape:w'.tape=w.tape
 output:w'.output=w.output
 size:w.heap.size≤w'.heap.size
 block:∀k,k<w.heap.size→k∉T→w'.heap[k]? =w.heap[k]?
theorem TurnO.refl (T:List Nat) (w:World):TurnO T w w:=⟨rfl,rfl,rfl,Nat.le_refl _,fun _ _ _=>rfl⟩
theorem TurnO.trans {T:List Nat} {a b c:World} (h:TurnO T a b) (k:TurnO T b c):TurnO T a c:=
 ⟨k.os.trans h.os,k.tape.trans h.tape,k.output.trans h.output,Nat.le_trans h.size k.size,fun i hi ht=>(k.block i (Nat.lt_of_lt_of_le hi h.size) ht).trans (h.block i hi ht)⟩
theorem TurnO.mono {T T':List Nat} {w w':World} (h:TurnO T w w') (hs:∀k∈T,k∈T'∨w.heap.size≤k):TurnO T' w w':=
 ⟨h.os,h.tape,h.output,h.size,fun i hi ht=>h.block i hi fun hm=>by rcases hs i hm with h1|h1;exact ht h1;omega⟩
theorem TurnO.of {T:List Nat} {w w':World} (h:Below w.heap.size w w'):TurnO T w w':=⟨h.os,h.tape,h.output,h.size,fun k hk _=>h.block k hk⟩
theorem TurnO.step {T:List Nat} {a w w':World} (h:TurnO T a w) (hb:Below w.heap.size w w'):TurnO T a w':=h.trans (.of hb)
theorem TurnO.alloc {T:List Nat} {a w:World} (h:TurnO T a w) (o:Obj):TurnO T a (w.alloc o):=h.step ((Below.refl _ _).alloc (Nat.le_refl _) o)
theorem TurnO.drew {T:List Nat} {a w:World} (h:TurnO T a w):TurnO T a w.drew:=h.step (Below.drew (Below.refl _ _))
theorem TurnO.setCell {T:List Nat} {a w:World} (h:TurnO T a w) {b o:Nat} {s:Option Nat} (hb:b∈T∨a.heap.size≤b) (u:Value):TurnO T a (w.setCell ⟨b,o,s⟩ u):=
 ⟨h.os,h.tape,h.output,Nat.le_trans h.size (by simp),fun k hk ht=>(heap_set_other (by rintro rfl;rcases hb with h1|h1;exact ht h1;omega)).trans (h.block k hk ht)⟩
theorem TurnO.grown {T:List Nat} {a w w':World} {r:Option Nat} (h:TurnO T a w) (hg:w.grownBy w' r) (hr:∀k,r=some k→k∈T∨a.heap.size≤k):TurnO T a w':=
 ⟨hg.os.trans h.os,hg.tape.trans h.tape,hg.output.trans h.output,Nat.le_trans h.size hg.size,fun k hk ht=>(hg.block k (Nat.lt_of_lt_of_le hk h.size) (fun e=>by rcases hr k e.symm with h1|h1;exact ht h1;omega)).trans (h.block k hk ht)⟩
theorem TurnO.below {T:List Nat} {w w':World} {B:Nat} (h:TurnO T w w') (hB:B≤w.heap.size) (hT:∀k∈T,B≤k):Below B w w':=
 ⟨h.os,h.tape,h.output,h.size,fun k hk=>h.block k (by omega) fun hm=>by have:=hT k hm;omega⟩
theorem TurnO.row {T:List Nat} {w w':World} {base:Nat} {e:TypeId} {size:Nat} {v:Value} {n:Nat} {xs:List Value} (h:TurnO T w w') (hr:w.ownsRow base e size v n xs) (hv:∀g,v.ownBlock=some g→g∉T):w'.ownsRow base e size v n xs:=by
 refine ⟨hr.1,?_⟩
 rcases hr.2 with hn|⟨g,cap,cur,rfl,hb,hgg,rest⟩
 ·exact .inl hn
 ·exact .inr ⟨g,cap,cur,rfl,hb,(h.block g (blk_lt hgg) (hv g rfl)).trans hgg,rest⟩
theorem TurnO.blk {T:List Nat} {w w':World} {b:Nat} {o:Obj} (h:TurnO T w w') (hb:w.heap[b]? =some o) (ht:b∉T):w'.heap[b]? =some o:=(h.block b (blk_lt hb) ht).trans hb
structure CellV where
 vl:Value
 vs:Value
 vm:Value
 vx:Value
def CellV.row (u:CellV) (c:CellD):List Value:=[.int .i64 c.t,u.vl,.int .i64 c.n,u.vs,u.vm,u.vx]
def CellV.blks (u:CellV):List Nat:=[u.vl,u.vs,u.vm,u.vx].filterMap Value.ownBlock
structure OwnC (w:World) (B:Nat) (u:CellV) (c:CellD):Prop where
 l:w.ownsRow B 65 2 u.vl c.l.length (c.l.flatMap ValD.cells)
 s:w.ownsRow B 126 2 u.vs c.sums.length (c.sums.flatMap wcells)
 m:w.ownsRow B 2 1 u.vm c.mins.length (c.mins.map (Value.int .i64))
 x:w.ownsRow B 2 1 u.vx c.maxs.length (c.maxs.map (Value.int .i64))
theorem OwnC.is {w:World} {B:Nat} {u:CellV} {c:CellD} (h:OwnC w B u c):CellIs w (u.row c) c:=
 ⟨u.vl,u.vs,u.vm,u.vx,rfl,ValsSl.own h.l,WidesSl.own h.s,IntsSl.own h.m,IntsSl.own h.x⟩
theorem OwnC.turn {w w':World} {T:List Nat} {B:Nat} {u:CellV} {c:CellD} (h:OwnC w B u c) (ht:TurnO T w w') (hT:∀g∈u.blks,g∉T):OwnC w' B u c:=
 ⟨ht.row h.l fun g hg=>hT g (by simp [CellV.blks,hg]),ht.row h.s fun g hg=>hT g (by simp [CellV.blks];exact .inr (.inl hg)),
  ht.row h.m fun g hg=>hT g (by simp [CellV.blks];exact .inr (.inr (.inl hg))),ht.row h.x fun g hg=>hT g (by simp [CellV.blks];exact .inr (.inr (.inr hg)))⟩
theorem OwnC.le {w:World} {B B':Nat} {u:CellV} {c:CellD} (h:OwnC w B u c) (hb:B'≤B):OwnC w B' u c:=⟨h.l.base_le hb,h.s.base_le hb,h.m.base_le hb,h.x.base_le hb⟩
theorem OwnC.lt {w:World} {B:Nat} {u:CellV} {c:CellD} (h:OwnC w B u c):∀g∈u.blks,B≤g∧g<w.heap.size:=by
 intro g hg
 simp only [CellV.blks,List.mem_filterMap] at hg
 obtain ⟨v,hv,he⟩:=hg
 simp only [List.mem_cons,List.not_mem_nil,or_false] at hv
 rcases hv with rfl|rfl|rfl|rfl
 ·exact h.l.lt g he
 ·exact h.s.lt g he
 ·exact h.m.lt g he
 ·exact h.x.lt g he
structure ApartC (u u':CellV):Prop where
 ss:∀g,u.vs.ownBlock=some g→¬u'.vs.ownBlock=some g
 mx:∀g,u.vm.ownBlock=some g→¬u.vx.ownBlock=some g
 mm:∀g,u.vm.ownBlock=some g→¬u'.vm.ownBlock=some g
 mx':∀g,u.vm.ownBlock=some g→¬u'.vx.ownBlock=some g
 xm:∀g,u.vx.ownBlock=some g→¬u'.vm.ownBlock=some g
 xx:∀g,u.vx.ownBlock=some g→¬u'.vx.ownBlock=some g
theorem mem_blks {u:CellV} {g:Nat}:g∈u.blks↔u.vl.ownBlock=some g∨u.vs.ownBlock=some g∨u.vm.ownBlock=some g∨u.vx.ownBlock=some g:=by
 simp [CellV.blks,List.mem_filterMap]
theorem ApartC.of {u u':CellV} (hn:u.blks.Nodup) (hd:∀g∈u.blks,g∉u'.blks):ApartC u u':=by
 have hd':=fun g h h'=>hd g (mem_blks.2 h) (mem_blks.2 h')
 refine ⟨fun g h h'=>hd' g (.inr (.inl h)) (.inr (.inl h')),fun g h h'=> ?_,fun g h h'=>hd' g (.inr (.inr (.inl h))) (.inr (.inr (.inl h'))),fun g h h'=>hd' g (.inr (.inr (.inl h))) (.inr (.inr (.inr h'))),fun g h h'=>hd' g (.inr (.inr (.inr h))) (.inr (.inr (.inl h'))),fun g h h'=>hd' g (.inr (.inr (.inr h))) (.inr (.inr (.inr h')))⟩
 unfold CellV.blks at hn
 cases h1:u.vl.ownBlock<;>cases h2:u.vs.ownBlock<;>simp_all
section
variable {p box B B' i j:Nat} {T:List Nat} {c d:CellD} {u u':CellV} {w0 w:World}
end
abbrev put1 (m:Nat) (l:List CellD) (d:CellD):List CellD:=Put.put (cellRule m) l d
def NonNeg (l:List CellD):Prop:=∀c∈l,0≤c.n
theorem NonNeg.put {m:Nat} {l:List CellD} {d:CellD} (hl:NonNeg l) (hd:0≤d.n):NonNeg (put1 m l d):=by
 intro y hy
 rcases Put.put_mem (cellRule m) hy with h|⟨x,hx,h⟩|⟨x,hx,h0,h⟩
 ·rw [h];exact hd
 ·rw [h];exact hl x hx
 ·rw [h];have:=hl x hx;show 0≤x.n+d.n;omega
structure Rolled (m:Nat) (l:List CellD):Prop where
 sorted:l.Pairwise fun a b=>cmpC a b<0
 all:Put.All (cellRule m) l
 nonneg:NonNeg l
theorem Rolled.nil (m:Nat):Rolled m []:=⟨List.Pairwise.nil,fun _ h=>(by simp at h),fun _ h=>(by simp at h)⟩
theorem flat_drop {α β:Type} (k:Nat) (f:α→List β) (hf:∀x,(f x).length=k):∀(l:List α) (m:Nat),(l.flatMap f).drop (m*k)=(l.drop m).flatMap f
 |[],m=>by simp
 |x::l,0=>by simp
 |x::l,m+1=>by
  rw [List.flatMap_cons,List.drop_append,hf,show (m+1)*k-k=m*k by rw [Nat.succ_mul];omega,flat_drop k f hf l m,List.drop_eq_nil_of_le (by rw [hf,Nat.succ_mul];omega)]
  rfl
end Go.Proofs.YtejleplhmkmegaaGreatDoor
