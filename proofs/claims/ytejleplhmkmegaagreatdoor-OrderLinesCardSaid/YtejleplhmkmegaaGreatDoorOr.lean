/- Texts joined: Bld, BldS, OrQ, OrR, OrT, RolE, RolF, OsS, OsT, OtJ, OtK, OtL, OtM. -/
import Derived.Test.YtejleplhmkmegaaGreatDoorOa
import Derived.Lib.Builder
import Derived.Lib.OthersKept
import Derived.Laws.Externs
import Derived.Laws.BitsLemmas
import Derived.Lib.AppendStr
import Derived.Lib.UnsafeStr
import Derived.Test.YtejleplhmkmegaaGreatDoorOh
import Derived.Test.YtejleplhmkmegaaGreatDoorOb
import Derived.Lib.RuneBytes
import Derived.Test.YtejleplhmkmegaaGreatDoorOd
import Derived.Test.YtejleplhmkmegaaGreatDoorOl
import Derived.Test.YtejleplhmkmegaaGreatDoorOk
import Derived.Test.YtejleplhmkmegaaGreatDoorOf
import Derived.WalkSpells
import Derived.Test.YtejleplhmkmegaaGreatDoorOq
import Derived.Test.YtejleplhmkmegaaGreatDoorOn
set_option linter.unusedVariables false
set_option linter.unusedSimpArgs false
namespace Go.Proofs.YtejleplhmkmegaaGreatDoor
open Go.ChangeShapes Go.WideShapes Go.ChangeAt Go.RowKit
theorem bld_info:∃j,Tryz.prog.info? 137=some j∧j.size≠0:=by
 have h:(Tryz.prog.info? 137).map (fun j=>decide (j.size≠0))=some true:=by kernel_rfl
 obtain ⟨j,h1,h2⟩:=Option.map_eq_some_iff.1 h
 exact ⟨j,h1,by simpa using h2⟩
set_option maxHeartbeats 1000000 in
set_option maxRecDepth 100000 in
theorem bld_used (b:Nat) (w:World) (h0:w.cell? ⟨b,0,none⟩=some (.pointer (some ⟨b,0,none⟩))):
  Calls Tryz.prog 154 #[.pointer (some ⟨b,0,none⟩)] w fun e w'=>e= .returned (.tuple #[])∧w'=w:=by
 obtain ⟨j,hj,_⟩:=bld_info
 go_enter Tryz.func154,Tryz.ntmps154
 go_wp2
 rw [Lib.run_neq_ptr_same w _ Tryz.underlying134 hj]
 go_wp2
 go_end0
 exact ⟨rfl,rfl⟩
set_option maxHeartbeats 1000000 in
set_option maxRecDepth 100000 in
theorem bld_fresh (b:Nat) (w:World) (h0:w.cell? ⟨b,0,none⟩=some (.pointer none)) (hsh:w.shape? b=some (137,2)) (hfz:w.frozen? ⟨b,0,none⟩=false):
  Calls Tryz.prog 154 #[.pointer (some ⟨b,0,none⟩)] w fun e w'=>e= .returned (.tuple #[])∧w'=w.setCell ⟨b,0,none⟩ (.pointer (some ⟨b,0,none⟩)):=by
 obtain ⟨j,hj,hjs⟩:=bld_info
 go_enter Tryz.func154,Tryz.ntmps154
 go_wp2
 rw [Lib.run_to_unsafe w ⟨b,0,none⟩ Tryz.underlying134 Tryz.underlying217 hj hjs hsh (Nat.zero_lt_succ 1)]
 simp only [Result.andThen]
 rw [Oper.upon_value]
 go_wp2
 rw [run_callFunc_extern Tryz.func205 (by kernel_rfl) (by kernel_rfl) (by kernel_rfl) (e:=Extern.AbiNoEscape.same) (by kernel_rfl)]
 rw [Lib.run_noEscape]
 simp only [Result.andThen]
 rw [Oper.upon_value]
 go_wp2
 rw [Lib.run_from_unsafe w ⟨b,0,none⟩ Tryz.underlying217 Tryz.underlying134 hj hsh (by kernel_rfl)]
 simp only [Result.andThen]
 rw [Oper.upon_value]
 go_wp2
 go_end0
 exact ⟨rfl,rfl⟩
abbrev BldAt (B b:Nat) (p:Value) (bs:List Value) (w:World):Prop:=Lib.BuilderAt 137 5 B b p bs w
abbrev Bld (B b:Nat) (bs:List Value) (w:World):Prop:=Lib.IsBuilder 137 5 B b bs w
abbrev Others (b:Nat) (w w':World):Prop:=Lib.OthersKept 5 (some b) w w'
theorem copyCheck_any (B b:Nat) (bs:List Value) (w:World) (h:Bld B b bs w):
  Calls Tryz.prog 154 #[.pointer (some ⟨b,0,none⟩)] w fun e w'=>e= .returned (.tuple #[])∧BldAt B b (.pointer (some ⟨b,0,none⟩)) bs w'∧Below B w w'∧Others b w w':=by
 rcases h with h|h
 ·refine (bld_fresh b w h.cell0 h.shape h.frozen0).mono ?_
  rintro e w' ⟨rfl,rfl⟩
  exact ⟨rfl,h.used _,(Below.refl B w).setCell (p:=⟨b,0,none⟩) h.1 _,(Lib.OthersKept.refl _ _ w).setCell ⟨b,0,none⟩ rfl _⟩
 ·refine (bld_used b w h.cell0).mono ?_
  rintro e w' ⟨rfl,rfl⟩
  exact ⟨rfl,h,Below.refl B _,Lib.OthersKept.refl _ _ _⟩
theorem info_u8b:(Tryz.prog.info? 5).map (fun i=>(i.zero,i.size,i.bytes))=some (some (.int .u8 0),1,1):=by kernel_rfl
theorem row_is {w:World} {B:Nat} {e:TypeId} {v:Value} {n:Nat} {xs:List Value} (h:w.ownsRow B e 1 v n xs):∀g,v.ownBlock=some g→∃c fz,w.heap[g]? =some (.cells c e fz):=by
 intro g hg
 rcases h.2 with ⟨rfl,_⟩|⟨g',cap,cur,rfl,_,hh,_⟩
 ·cases hg
 ·cases hg;exact ⟨_,_,hh⟩
set_option maxHeartbeats 1000000 in
set_option maxRecDepth 100000 in
theorem writeByte_any (B b:Nat) (bs:List Value) (c:Int) (w:World) (h:Bld B b bs w) (hlen:bs.length+1≤140737488355328) (hBw:B≤w.heap.size):
  Calls Tryz.prog 82 #[.pointer (some ⟨b,0,none⟩),.int .u8 c] w fun e w'=>e= .returned .nilIface∧BldAt B b (.pointer (some ⟨b,0,none⟩)) (bs++[.int .u8 c]) w'∧Below B w w'∧Others b w w':=by
 obtain ⟨i0,hi,hz0,hz1,hz2⟩:=info_parts info_u8b
 go_enter Tryz.func82,Tryz.ntmps82
 go_wp2_with (go_at_call 154;refine (copyCheck_any B b bs _ h).mono ?_)
 rintro e w1 ⟨rfl,h1,hb1,hk1⟩
 obtain ⟨hB,v,hbk,hown,hne⟩:=h1
 have c0:w1.cell? ⟨b,0,none⟩=some (.pointer (some ⟨b,0,none⟩)):=by rw [Lib.cell_of_heap hbk];rfl
 have c1:w1.cell? ⟨b,1,none⟩=some v:=by rw [Lib.cell_of_heap hbk];rfl
 have hz:=hb1.size
 have hlt:b<w1.heap.size:=lt_of_block hbk
 go_wp2_with (at_builtin;refine wpList_append_own _ rfl _ _ 135 rfl B 5 i0 (.int .u8 0) 1 1 Tryz.underlying135 hi hz0 hz1 hz2 rfl (by decide) _ _ _ rfl (hown.alloc _) ⟨w1.heap.size,0,none⟩ 1 1 [.int .u8 c] rfl rfl ?c1 ?c2 ?c3 ?c4 ?c5 ?_)
 case c1=>
  intro j u hj
  match j,hj with
  |0,hj=>simp at hj;subst hj;simp [Addr.add]
 case c2=>intro u hu;simp at hu;subst hu;rfl
 case c3=>unfold maxLen;omega
 case c4=>omega
 case c5=>simp;omega
 intro v' w2 hown' hgrow hnil
 have hb2:w2.heap[b]? =some (.cells #[.pointer (some ⟨b,0,none⟩),v] 137 (0,0)):=by
  rw [hgrow.block b (by simp;omega) (fun e=>hne e.symm),Lib.alloc_old w1 _ b hlt]
  exact hbk
 have d0:w2.cell? ⟨b,0,none⟩=some (.pointer (some ⟨b,0,none⟩)):=by rw [Lib.cell_of_heap hb2];rfl
 have d1:w2.cell? ⟨b,1,none⟩=some v:=by rw [Lib.cell_of_heap hb2];rfl
 have f1:w2.frozen? ⟨b,1,none⟩=false:=Lib.frozen_of_heap hb2 1
 have hk2:Others b w w2:=(hk1.alloc _).grown hgrow (row_is (hown.alloc _))
 have hbB:Below B w w2:=(hb1.alloc (by omega) _).grown hgrow (by simp;omega) (fun r e=>(hown.lt r e).1)
 have hbl:(bs++[Value.int .u8 c]).length=bs.length+1:=by simp
 have hown2:w2.ownsRow B 5 1 v' (bs++[Value.int .u8 c]).length (bs++[Value.int .u8 c]):=by rw [hbl];exact hown'
 obtain ⟨g,cap,rfl⟩:∃g cap,v'= .slice (some ⟨g,0,none⟩) (bs.length+1) cap:=by
  rcases hown'.2 with ⟨_,h0⟩|⟨g,cap,cur,hv,_⟩
  ·omega
  ·exact ⟨g,cap,hv⟩
 clear hown hown' hbk hbl h hgrow hnil
 go_wp2
 go_ret
 exact ⟨rfl,Lib.BuilderAt.put hB hb2 hown2 (by decide),hbB.setCell hB _,hk2.setCell _ rfl _⟩
theorem bld_below {B b:Nat} {p:Value} {bs:List Value} {w w':World} (h:BldAt B b p bs w) (hb:Below w.heap.size w w'):BldAt B b p bs w':=by
 obtain ⟨h1,v,hbk,hown,hne⟩:=h
 exact ⟨h1,v,(hb.block b (lt_of_block hbk)).trans hbk,hown.kept (row:=none) ⟨hb.os,hb.tape,hb.output,hb.size,fun i hi _=>hb.block i hi⟩ (by cases v.ownBlock<;>simp),hne⟩
theorem Bld.below {B b:Nat} {bs:List Value} {w w':World} (h:Bld B b bs w) (hb:Below w.heap.size w w'):Bld B b bs w':=by
 rcases h with h|h
 ·exact .inl (bld_below h hb)
 ·exact .inr (bld_below h hb)
theorem Bld.new (w:World):Bld w.heap.size w.heap.size [] (w.alloc (.cells #[.pointer none,.slice none 0 0] 137)):=
 .inl ⟨Nat.le_refl _,_,heap_at rfl,World.ownsRow_nil _ _ _ _,by simp [Value.ownBlock]⟩
set_option maxRecDepth 100000
open Go.Fl
attribute [local go_sem] Oper.semAt_some
theorem bld_iterAt {B b:Nat} {p:Value} {bs:List Value} {w:World} (h:BldAt B b p bs w) {k:Nat} {s:ByteArray} {pos:Nat} (hk:w.heap[k]? =some (.stringIter s pos)) (pos':Nat):BldAt B b p bs (w.iterAt k s pos'):=by
 obtain ⟨hB,v,hb,hown,hne⟩:=h
 have hkb:b≠k:=by
  intro e1
  rw [e1,hk] at hb
  cases hb
 refine ⟨hB,v,(Lib.iterAt_other w k b s pos' hkb).trans hb,⟨hown.1,?_⟩,hne⟩
 rcases hown.2 with hn|⟨g,cap,cur,hv,hbg,hg,rest⟩
 ·exact .inl hn
 ·have hkg:g≠k:=by
   intro e1
   rw [e1,hk] at hg
   cases hg
  exact .inr ⟨g,cap,cur,hv,hbg,(Lib.iterAt_other w k g s pos' hkg).trans hg,rest⟩
set_option maxHeartbeats 1000000 in
theorem writeRune_any (B b:Nat) (bs:List Value) (r:Int) (w:World) (hr0: -2147483648≤r) (hr1:r≤2147483647) (h:Bld B b bs w) (hlen:bs.length+4≤140737488355328) (hBw:B≤w.heap.size):
  Calls Tryz.prog 83 #[.pointer (some ⟨b,0,none⟩),.int .i32 r] w fun e w'=>(∃n,e= .returned (.tuple #[.int .i64 n,.nilIface]))∧BldAt B b (.pointer (some ⟨b,0,none⟩)) (bs++Lib.runeCells r) w'∧Below B w w'∧Others b w w':=by
 go_enter Tryz.func83,Tryz.ntmps83
 go_wp2_with (go_at_call 154;refine (copyCheck_any B b bs _ h).mono ?_)
 rintro e w1 ⟨rfl,h1,hb1,hk1⟩
 obtain ⟨hB,v,hbk,hown,hne⟩:=h1
 obtain ⟨ao,cap,rfl⟩:=hown.shape
 have c0:w1.cell? ⟨b,0,none⟩=some (.pointer (some ⟨b,0,none⟩)):=by rw [Lib.cell_of_heap hbk];rfl
 have c1:w1.cell? ⟨b,1,none⟩=some (.slice ao bs.length cap):=by rw [Lib.cell_of_heap hbk];rfl
 have hz:=hb1.size
 have hlt:b<w1.heap.size:=lt_of_block hbk
 have AR:=hid (Tryz.utf8_AppendRune_plain B _ _ bs r hr0 hr1 w1 hown hlen (by omega))
 go_wp2_with (go_at_call 155;refine (AR.out).mono ?_)
 rintro e w2 ⟨v',rfl,hown',o,hgrow⟩
 have hb2:w2.heap[b]? =some (.cells #[.pointer (some ⟨b,0,none⟩),.slice ao bs.length cap] 137 (0,0)):=by
  rw [hgrow.block b (by simp;omega) (fun e=>hne e.symm),Lib.alloc_old w1 _ b hlt]
  exact hbk
 have d0:w2.cell? ⟨b,0,none⟩=some (.pointer (some ⟨b,0,none⟩)):=by rw [Lib.cell_of_heap hb2];rfl
 have d1:w2.cell? ⟨b,1,none⟩=some (.slice ao bs.length cap):=by rw [Lib.cell_of_heap hb2];rfl
 have f1:w2.frozen? ⟨b,1,none⟩=false:=Lib.frozen_of_heap hb2 1
 have hk2:Others b w w2:=(hk1.alloc _).grown hgrow (row_is (hown.alloc _))
 have hbB:Below B w w2:=(hb1.alloc (by omega) _).grown hgrow (by simp;omega) (fun r e=>(hown.lt r e).1)
 have hbl:(bs++Lib.runeCells r).length=bs.length+(Lib.runeCells r).length:=by simp
 have hown2:w2.ownsRow B 5 1 v' (bs++Lib.runeCells r).length (bs++Lib.runeCells r):=by rw [hbl];exact hown'
 obtain ⟨ao2,cap2,rfl⟩:=hown'.shape
 clear hown hown' hbk hbl h hgrow
 generalize (Lib.runeCells r).length=m at*
 go_wp2
 go_ret2
 exact ⟨⟨_,rfl⟩,Lib.BuilderAt.put hB hb2 hown2 (by decide),hbB.setCell hB _,hk2.setCell _ rfl _⟩
theorem lt_of_iter {w:World} {b:Nat} {o:Obj} (h:w.heap[b]? =some o):b<w.heap.size:=(Array.getElem?_eq_some_iff.1 h).1
def plainC (c:UInt8):Prop:=32≤c.toNat∧c.toNat≤126∧c.toNat≠34∧c.toNat≠92
set_option maxHeartbeats 2000000 in
theorem quoted_plain (l:List UInt8) (hl:∀c∈l,plainC c) (hn:l.length≤1000) (w:World):
  Calls Tryz.prog 46 #[strL l] w fun e w'=>e= .returned (strL (34::(l++[34])))∧Below w.heap.size w w':=by
 have HL:=hid hl
 obtain ⟨s,hs⟩:∃s:ByteArray,s={ data:=l.toArray}:=⟨_,rfl⟩
 have hss:s.size=l.length:=by rw [hs];rfl
 have HS:Hid (∀k (h:k<s.size) (h2:k<l.length),s[k]'h=l[k]):=fun k h h2=>by subst hs;rfl
 unfold strL
 rw [←hs]
 clear hl hs
 go_enter Tryz.func46,Tryz.ntmps46
 go_wp2_with (go_at_call 82;go_loud ((with_reducible refine (writeByte_any w.heap.size w.heap.size [] 34 _ (Bld.new w) (by simp) (by simp)).mono ?_);rintro e w1 ⟨rfl,h1,hb1,hk1⟩))
 have hB1:Below w.heap.size w w1:=((Below.refl _ _).alloc (Nat.le_refl _) _).trans hb1
 have hzb:w.heap.size<w1.heap.size:=Nat.lt_of_lt_of_le (by simp) hb1.size
 have H1:=hid h1;have HB1:=hid hB1
 clear h1 hb1 hk1 hB1
 go_loopw [4,5,6,7,9] (fun _ _ _ _ _ wr=>∃k:Nat,k≤l.length∧wr.heap[w1.heap.size]? =some (.stringIter s k)∧BldAt w.heap.size w.heap.size (.pointer (some ⟨w.heap.size,0,none⟩)) (Lib.byteCells (34::l.take k)) wr∧Below w.heap.size w wr∧w1.heap.size<wr.heap.size) (fun _ _ _ _ _ wr=>l.length-wr.iterPos w1.heap.size)
 case atStart=>
  refine ⟨0,Nat.zero_le _,World.iter_heap _ _ _,?_,?_,by simp [World.iter]⟩
  ·exact bld_below H1.out (Below.new (Below.refl _ _) _)
  ·exact HB1.out.new _
 case round=>
  obtain ⟨k,hk,hit,hbd,hbw,hz⟩:=hrel
  have hpos:wr.iterPos w1.heap.size=k:=by simp [World.iterPos,hit]
  have HP:=hid hpos
  by_cases hlt:k<l.length
  ·have hks:k<s.size:=by omega
   have hc:=HS.out k hks hlt
   obtain ⟨p1,p2,p3,p4⟩:=HL.out l[k] (List.getElem_mem hlt)
   have hnx:=Lib.run_next_ascii_at (P:=Tryz.prog) wr w1.heap.size s k 0 hit hks (by rw [hc];omega)
   rw [hc] at hnx
   have hbd2:=bld_iterAt hbd hit (k+1)
   have hbw2:=Lib.below_iterAt hbw (show w.heap.size≤w1.heap.size by omega) s (k+1)
   have hit2:=Lib.iterAt_heap wr w1.heap.size s k (k+1) hit
   have hz2:=Lib.iterAt_size wr w1.heap.size s (k+1)
   have HT:Hid (Lib.byteCells (34::l.take (k+1))=Lib.byteCells (34::l.take k)++[Value.int .u8 (l[k].toNat:Int)]):=by
    unfold Hid Lib.byteCells
    rw [List.take_succ_eq_append_getElem hlt,←List.cons_append,List.map_append]
    rfl
   have HR:Hid (Lib.runeCells (l[k].toNat:Int)=[Value.int .u8 (l[k].toNat:Int)]):=by
    unfold Hid Lib.runeCells
    rw [Lib.encodeRuneZ_one (by omega) (by omega)]
    rfl
   have hlen:(Lib.byteCells (34::l.take k)).length+4≤140737488355328:=by
    rw [Lib.byteCells_length,List.length_cons,List.length_take];omega
   obtain ⟨X,hX⟩:∃X,wr.iterAt w1.heap.size s (k+1)=X:=⟨_,rfl⟩
   rw [hX] at hnx hbd2 hbw2 hit2 hz2
   obtain ⟨v,hv⟩:∃v:Int,(l[k].toNat:Int)=v:=⟨_,rfl⟩
   rw [hv] at HT HR hnx
   have v1:¬v<32:=by omega
   have v2:¬126<v:=by omega
   have v3:(v==34)=false:=by simp;omega
   have v4:(v==92)=false:=by simp;omega
   have v5:32≤v:=by omega
   have v6:v≤126:=by omega
   generalize Lib.byteCells (34::l.take k)=bs at*
   have WR:=hid (writeRune_any w.heap.size w.heap.size bs v X (by omega) (by omega) (.inr hbd2) hlen (by omega))
   have HBW:=hid hbw2;have HIT:=hid hit2;have HLT:=hid hlt
   clear hX hit hbd hbw hbd2 hbw2 hc p1 p2 p3 p4 hks hpos hlt hv
   go_wp2_with (go_at_call 83;go_loud ((with_reducible refine (WR.out).mono ?_);rintro e w2 ⟨⟨nn,rfl⟩,hbd3,hb2,hk2⟩))
   go_roundw
   case rel=>
    have hit3:=Lib.OthersKept.iter hk2 HIT.out (by omega)
    refine ⟨k+1,HLT.out,hit3,by rw [HT.out,←HR.out];exact hbd3,HBW.out.trans hb2,lt_of_iter hit3⟩
   case measure=>
    have hit3:=Lib.OthersKept.iter hk2 HIT.out (by omega)
    have:w2.iterPos w1.heap.size=k+1:=by simp [World.iterPos,hit3]
    rw [this,HP.out]
    have:=HLT.out
    omega
  ·obtain rfl:k=l.length:=by omega
   have hnx:=Lib.run_next_end_at (P:=Tryz.prog) wr w1.heap.size s _ 0 hit (show ¬l.length<s.size by omega)
   rw [List.take_length] at hbd
   have hlen:(Lib.byteCells (34::l)).length+1≤140737488355328:=by rw [Lib.byteCells_length,List.length_cons];omega
   have HW:=hid (writeByte_any w.heap.size w.heap.size _ 34 wr (.inr hbd) hlen (by omega))
   have HBW:=hid hbw
   have HE:Hid (Lib.byteCells (34::(l++[34]))=Lib.byteCells (34::l)++[.int .u8 34]):=by unfold Hid Lib.byteCells;simp
   clear hit hbd hbw hlen hpos
   go_wp2_with (first
    |(go_at_call 82;go_loud ((with_reducible refine (HW.out).mono ?_);rintro e w2 ⟨rfl,hbd3,hb2,hk2⟩;rw [←HE.out] at hbd3;have HST:=hid (Tryz.Builder_String_any w.heap.size w.heap.size _ w2 (.inr hbd3) (by have:=hb2.size;omega))))
    |(go_at_call 86;go_loud ((with_reducible refine (HST.out).mono ?_);rintro e w3 ⟨rfl,hb3⟩)))
   go_ret
   exact ⟨rfl,(HBW.out.trans hb2).trans hb3⟩
attribute [local go_sem] ord_lt ord_eq ord_gt ord_ne run_store_float run_equalIn_float
def lineWords:List ByteArray:=[⟨#[50]⟩,⟨#[54,48]⟩,⟨#[34,120,34]⟩,⟨#[45]⟩,⟨#[53]⟩,⟨#[53,112,45,49]⟩]
theorem quoted_x (W:World):Calls Tryz.prog 46 #[.string { data:= #[120]}] W fun e w'=>e= .returned (.string { data:= #[34,120,34]})∧Below W.heap.size W w':=
 quoted_plain [120] (by intro c hc;simp at hc;subst hc;unfold plainC;decide) (by decide) W
theorem quoted_none (W:World):Calls Tryz.prog 46 #[.string { data:= #[]}] W fun e w'=>e= .returned (.string { data:= #[34,34]})∧Below W.heap.size W w':=
 quoted_plain [] (by intro c hc;simp at hc) (by decide) W
theorem itoa_2 (W:World):Calls Tryz.prog 44 #[.int .i64 2] W fun e w'=>e= .returned (.string { data:= #[50]})∧Below W.heap.size W w':=by
 have h:=Tryz.strconv_Itoa_small 2 (by decide) W
 rw [show Lib.decDigits 2=[50] by decide+kernel] at h
 exact h.mono fun e w' ⟨a,b⟩=>⟨a,b▸Below.refl _ _⟩
theorem fmt_60 (W:World):Calls Tryz.prog 45 #[.int .i64 60,.int .i64 10] W fun e w'=>e= .returned (.string { data:= #[54,48]})∧Below W.heap.size W w':=by
 have h:=Tryz.strconv_FormatInt_10_small 60 (by decide) W
 rw [show Lib.decDigits 60=[54,48] by decide+kernel] at h
 exact h.mono fun e w' ⟨a,b⟩=>⟨a,b▸Below.refl _ _⟩
theorem fmt_5 (W:World):Calls Tryz.prog 45 #[.int .i64 5,.int .i64 10] W fun e w'=>e= .returned (.string { data:= #[53]})∧Below W.heap.size W w':=by
 have h:=Tryz.strconv_FormatInt_10_small 5 (by decide) W
 rw [show Lib.decDigits 5=[53] by decide+kernel] at h
 exact h.mono fun e w' ⟨a,b⟩=>⟨a,b▸Below.refl _ _⟩
theorem fmt_0 (W:World):Calls Tryz.prog 45 #[.int .i64 0,.int .i64 10] W fun e w'=>e= .returned (.string { data:= #[48]})∧Below W.heap.size W w':=by
 have h:=Tryz.strconv_FormatInt_10_small 0 (by decide) W
 rw [show Lib.decDigits 0=[48] by decide+kernel] at h
 exact h.mono fun e w' ⟨a,b⟩=>⟨a,b▸Below.refl _ _⟩
theorem show_25:textB 4612811918334230528=[53,112,45,49]:=by decide+kernel
theorem text_25 (W:World) (h:Tabs W):Calls Tryz.prog 47 #[.float .f64 4612811918334230528] W fun e w'=>e= .returned (.string { data:= #[53,112,45,49]})∧Below W.heap.size W w':=by
 have:=text_any 4612811918334230528 (by decide) W h
 rw [show_25] at this
 exact this
abbrev lineB (A B:Nat):Obj:= .cells #[.int .i64 2,.int .i64 60,.slice (some ⟨A,0,none⟩) 2 2,.slice (some ⟨B,0,none⟩) 2 2] 37 (0,0)
set_option maxHeartbeats 2000000 in
theorem text_shown (A B:Nat) (w:World) (hT:Tabs w) (a0:w.cell? ⟨A,0,none⟩=some (.string { data:= #[120]})) (a1:w.cell? ⟨A,1,none⟩=some (.bool false)) (a2:w.cell? ⟨A,2,none⟩=some (.string { data:= #[]})) (a3:w.cell? ⟨A,3,none⟩=some (.bool true))
  (b0:w.cell? ⟨B,0,none⟩=some (.bool false)) (b1:w.cell? ⟨B,1,none⟩=some (.int .i64 5)) (b2:w.cell? ⟨B,2,none⟩=some (.float .f64 0)) (b3:w.cell? ⟨B,3,none⟩=some (.bool true)) (b4:w.cell? ⟨B,4,none⟩=some (.int .i64 0)) (b5:w.cell? ⟨B,5,none⟩=some (.float .f64 4612811918334230528)):
  Calls Tryz.prog 20 #[.agg #[.int .i64 2,.int .i64 60,.slice (some ⟨A,0,none⟩) 2 2,.slice (some ⟨B,0,none⟩) 2 2]] w fun e w'=>e= .returned (.string { data:= #[50,32,54,48,32,34,120,34,32,45,32,53,32,53,112,45,49]})∧Below w.heap.size w w':=by
 have Q0:=hid quoted_x;have Q1:=hid quoted_none
 have F0:=hid itoa_2;have F1:=hid fmt_60;have F2:=hid fmt_5;have F3:=hid fmt_0
 have TX:=hid (fun W (h:Below w.heap.size w W)=>text_25 W (hT.below h (Nat.le_refl _)))
 obtain ⟨i0,hi,hiz0,hiz1,hiz2⟩:=info_parts info_string
 clear hT
 go_enter Tryz.func20,Tryz.ntmps20
 go_upto_region 1 with fail
 have l0:(w.alloc (.cells #[.int .i64 2,.int .i64 60,.slice (some ⟨A,0,none⟩) 2 2,.slice (some ⟨B,0,none⟩) 2 2] 37)).heap[w.heap.size]? =some (lineB A B):=heap_at rfl
 have z0:=cell_blk (i:=0) l0 rfl;have z1:=cell_blk (i:=1) l0 rfl
 have p0:=World.plus_cell z0;have p1:=World.plus_cell z1
 have kB:Below w.heap.size w (w.alloc (.cells #[.int .i64 2,.int .i64 60,.slice (some ⟨A,0,none⟩) 2 2,.slice (some ⟨B,0,none⟩) 2 2] 37)):=(Below.refl _ _).new _
 obtain ⟨X,hX⟩:∃X,w.alloc (.cells #[.int .i64 2,.int .i64 60,.slice (some ⟨A,0,none⟩) 2 2,.slice (some ⟨B,0,none⟩) 2 2] 37)=X:=⟨_,rfl⟩
 have hzX:X.heap.size=w.heap.size+1:=by rw [←hX];simp
 rw [hX] at l0 z0 z1 p0 p1 kB ⊢
 clear hX
 refine wp_region_plus_tail (6) (by kernel_rfl) (by kernel_rfl) ?_
 simp only [List.take_succ_cons,List.take_zero,List.drop_succ_cons,List.drop_zero]
 repeat (first|go_big_quiet_skip|(go_big_quiet_want;go_big_quiet_op;first|go_big_quiet_on|go_big_quiet_call (((first|(go_at_call 44;exact Calls.plus_of (F0.out _))|(go_at_call 45;exact Calls.plus_of (F1.out _)))))))
 refine wpQuiet_nil ?_
 rintro _ ⟨xq,rfl⟩
 have kC:=kB.trans ((World.plus_below X xq).mono kB.size)
 have l1:=blk_below l0 (World.plus_below X xq)
 have kzq:=(World.plus_below X xq).size
 obtain ⟨Y,hY⟩:∃Y,World.plus X xq=Y:=⟨_,rfl⟩
 rw [hY] at kC l1 kzq ⊢
 clear hY p0 p1 z0 z1 l0 kB
 have HA:=hid (⟨a0,a1,a2,a3⟩:_∧_∧_∧_)
 have HB:=hid (⟨b0,b1,b2,b3,b4,b5⟩:_∧_∧_∧_∧_∧_)
 have HY:=hid (⟨kC,l1⟩:_∧_)
 have hYz:w.heap.size+1≤Y.heap.size:=by omega
 have hfirst:(Y.alloc (.cells #[.string { data:= #[50]},.string { data:= #[54,48]}] 9)).ownsRow (w.heap.size+1) 9 1 (.slice (some ⟨Y.heap.size,0,none⟩) 2 2) 2 (strsV (lineWords.take 2)):=
  ⟨rfl,.inr ⟨Y.heap.size,2,_,rfl,hYz,heap_at rfl,by decide,by decide,rfl,rfl⟩⟩
 have HF0:=hid hfirst
 clear a0 a1 a2 a3 b0 b1 b2 b3 b4 b5 hfirst
 have e2:=cell_blk (i:=2) l1 rfl
 have hlt:=lt_of_block l1
 go_wp2_with fail
 go_loopw [3,4,5,6,20] (fun o _ _ _ iv wr=>∃k:Nat,k≤2∧iv= .int .i64 (k:Nat)∧wr.heap[w.heap.size]? =some (lineB A B)∧wr.ownsRow (w.heap.size+1) 9 1 o (k+2) (strsV (lineWords.take (k+2)))∧Below w.heap.size w wr) (fun _ _ _ _ iv _=>2-(intOf iv).toNat)
 case atStart=>
  exact ⟨0,by decide,rfl,(heap_past hlt).trans l1,HF0.out,kC.new _⟩
 case round=>
  obtain ⟨k,hk,rfl,hl,hown,hbw⟩:=hrel
  have hlw:=lt_of_block hl
  have y0:=cell_blk (i:=0) hl rfl
  have hcase:k=0∨k=1∨k=2:=by omega
  rcases hcase with rfl|rfl|rfl
  ·have c0:=cell_step HA.out.1 hbw;have c1:=cell_step HA.out.2.1 hbw
   have zA:A<wr.heap.size:=World.block_lt_of_cell? _ _ c0
   have HB1:=hid hbw;have HO:=hid hown;have HL:=hid hl
   clear hbw hown hl
   go_wp2_with (first|(go_at_call 46;go_loud ((with_reducible refine (Q0.out _).mono ?_);rintro e w2 ⟨rfl,hb2⟩;have hbw2:Below wr.heap.size wr w2:=Gr;have hz2:=hbw2.size;have y1:=cell_step y0 hbw2;have d1:w2.cell? ⟨wr.heap.size,1,none⟩=some (.bool false):=cell_step (cell_blk (heap_at rfl) rfl) hb2))|(at_builtin;go_loud (refine wpList_append_sl _ rfl _ _ 23 rfl (w.heap.size+1) 9 i0 (.string { data:= #[]}) 1 16 Tryz.underlying23 hi hiz0 hiz1 hiz2 rfl (by decide) _ _ _ rfl ((row_below HO.out hbw2).alloc _) (.slice (some ⟨w2.heap.size,0,none⟩) 1 1) 1 [.string { data:= #[34,120,34]}] rfl (SlAt.new w2 #[.string { data:= #[34,120,34]}] 9) (by simp [Value.oneCell']) (by unfold maxLen;omega) (by omega) (by simp;omega) ?_);intro va w3 hown1 hgrow1 hnb))
   go_roundw
   case rel=>exact ⟨1,by decide,by go_num,own_blk ((row_below HO.out hbw2).alloc _) hgrow1 (by omega) ((heap_past (by have:=hbw2.size;omega)).trans (blk_below HL.out hbw2)),hown1,own_below ((row_below HO.out hbw2).alloc _) hgrow1 (by have:=HB1.out;exact Gr) (by omega)⟩
   case measure=>simp [intOf]
  ·have c0:=cell_step HA.out.2.2.1 hbw;have c1:=cell_step HA.out.2.2.2 hbw
   have zA:A<wr.heap.size:=World.block_lt_of_cell? _ _ c0
   have HB1:=hid hbw;have HO:=hid hown;have HL:=hid hl
   clear hbw hown hl
   go_wp2_with (first|(go_at_call 46;go_loud ((with_reducible refine (Q1.out _).mono ?_);rintro e w2 ⟨rfl,hb2⟩;have hbw2:Below wr.heap.size wr w2:=Gr;have hz2:=hbw2.size;have y1:=cell_step y0 hbw2;have d1:w2.cell? ⟨wr.heap.size,1,none⟩=some (.bool true):=cell_step (cell_blk (heap_at rfl) rfl) hb2))|(at_builtin;go_loud (refine wpList_append_sl _ rfl _ _ 23 rfl (w.heap.size+1) 9 i0 (.string { data:= #[]}) 1 16 Tryz.underlying23 hi hiz0 hiz1 hiz2 rfl (by decide) _ _ _ rfl ((row_below HO.out hbw2).alloc _) (.slice (some ⟨w2.heap.size,0,none⟩) 1 1) 1 [.string { data:= #[45]}] rfl (SlAt.new w2 #[.string { data:= #[45]}] 9) (by simp [Value.oneCell']) (by unfold maxLen;omega) (by omega) (by simp;omega) ?_);intro va w3 hown1 hgrow1 hnb))
   go_roundw
   case rel=>exact ⟨2,by decide,by go_num,own_blk ((row_below HO.out hbw2).alloc _) hgrow1 (by omega) ((heap_past (by have:=hbw2.size;omega)).trans (blk_below HL.out hbw2)),hown1,own_below ((row_below HO.out hbw2).alloc _) hgrow1 (by have:=HB1.out;exact Gr) (by omega)⟩
   case measure=>simp [intOf]
  ·rw [show ((2:Nat):Int)=2 from rfl]
   have HO:=hid hown
   have y3:=cell_blk (i:=3) hl rfl
   have HL:=hid hl;have HBW:=hid hbw
   clear hown hl hbw
   go_wp2_with fail
   go_loopw [3,8,9,49] (fun o _ _ iv wr=>∃k:Nat,k≤2∧iv= .int .i64 (k:Nat)∧wr.heap[w.heap.size]? =some (lineB A B)∧wr.ownsRow (w.heap.size+1) 9 1 o (k+4) (strsV (lineWords.take (k+4)))∧Below w.heap.size w wr) (fun _ _ _ iv _=>2-(intOf iv).toNat)
   case atStart=>exact ⟨0,by decide,rfl,HL.out,HO.out,HBW.out⟩
   case round=>
    clear HO HL HBW hlw y0 y3
    obtain ⟨k,hk,rfl,hl,hown,hbw⟩:=hrel
    have hlw:=lt_of_block hl
    have hcase:k=0∨k=1∨k=2:=by omega
    rcases hcase with rfl|rfl|rfl
    ·have c0:=cell_step HB.out.1 hbw;have c1:=cell_step HB.out.2.1 hbw;have c2:=cell_step HB.out.2.2.1 hbw
     have zB:B<wr.heap.size:=World.block_lt_of_cell? _ _ c0
     have HB1:=hid hbw;have HO:=hid hown;have HL:=hid hl
     clear hbw hown hl
     go_wp2_with (first|(go_at_call 45;go_loud ((with_reducible refine (F2.out _).mono ?_);rintro e w2 ⟨rfl,hb2⟩;have hbw2:Below wr.heap.size wr w2:=Gr;have hz2:=hbw2.size;have d0:=cell_step (cell_blk (i:=0) (heap_at rfl) rfl) hb2;have d2:=cell_step (cell_blk (i:=2) (heap_at rfl) rfl) hb2))|(at_builtin;go_loud (refine wpList_append_sl _ rfl _ _ 23 rfl (w.heap.size+1) 9 i0 (.string { data:= #[]}) 1 16 Tryz.underlying23 hi hiz0 hiz1 hiz2 rfl (by decide) _ _ _ rfl ((row_below HO.out hbw2).alloc _) (.slice (some ⟨w2.heap.size,0,none⟩) 1 1) 1 [.string { data:= #[53]}] rfl (SlAt.new w2 #[.string { data:= #[53]}] 9) (by simp [Value.oneCell']) (by unfold maxLen;omega) (by omega) (by simp;omega) ?_);intro va w3 hown1 hgrow1 hnb))
     go_roundw
     case rel=>exact ⟨1,by decide,by go_num,own_blk ((row_below HO.out hbw2).alloc _) hgrow1 (by omega) ((heap_past (by have:=hbw2.size;omega)).trans (blk_below HL.out hbw2)),hown1,own_below ((row_below HO.out hbw2).alloc _) hgrow1 (by have:=HB1.out;exact Gr) (by omega)⟩
     case measure=>simp [intOf]
    ·have c0:=cell_step HB.out.2.2.2.1 hbw;have c1:=cell_step HB.out.2.2.2.2.1 hbw;have c2:=cell_step HB.out.2.2.2.2.2 hbw
     have zB:B<wr.heap.size:=World.block_lt_of_cell? _ _ c0
     have HB1:=hid hbw;have HO:=hid hown;have HL:=hid hl
     clear hbw hown hl
     go_wp2_with (first|(go_at_call 45;go_loud ((with_reducible refine (F3.out _).mono ?_);rintro e w2 ⟨rfl,hb2⟩;have hbw2:Below wr.heap.size wr w2:=Gr;have hz2:=hbw2.size;have d0:=cell_step (cell_blk (i:=0) (heap_at rfl) rfl) hb2;have d2:=cell_step (cell_blk (i:=2) (heap_at rfl) rfl) hb2))|(go_at_call 47;go_loud ((with_reducible refine (TX.out _ (HB1.out.trans (hbw2.mono (by omega)))).mono ?_);rintro e w4 ⟨rfl,hb4⟩;have hbw4:Below wr.heap.size wr w4:=hbw2.step hb4;have hz4:=hbw4.size))|(at_builtin;go_loud (refine wpList_append_sl _ rfl _ _ 23 rfl (w.heap.size+1) 9 i0 (.string { data:= #[]}) 1 16 Tryz.underlying23 hi hiz0 hiz1 hiz2 rfl (by decide) _ _ _ rfl ((row_below HO.out hbw4).alloc _) (.slice (some ⟨w4.heap.size,0,none⟩) 1 1) 1 [.string { data:= #[53,112,45,49]}] rfl (SlAt.new w4 #[.string { data:= #[53,112,45,49]}] 9) (by simp [Value.oneCell']) (by unfold maxLen;omega) (by omega) (by simp;omega) ?_);intro va w3 hown1 hgrow1 hnb))
     go_roundw
     case rel=>exact ⟨2,by decide,by go_num,own_blk ((row_below HO.out hbw4).alloc _) hgrow1 (by omega) ((heap_past (by have:=hbw4.size;omega)).trans (blk_below HL.out hbw4)),hown1,own_below ((row_below HO.out hbw4).alloc _) hgrow1 (by have:=HB1.out;exact Gr) (by omega)⟩
     case measure=>simp [intOf]
    ·obtain ⟨g,cap,rfl⟩:=Joins.ownsRow_form hown (by decide)
     have hpt:=SlAt.parts (SlAt.own hown)
     obtain ⟨g',off',he,hcell⟩:=hpt.2.2.2.2 (by decide)
     have hgl:=(hown.lt g rfl).2
     obtain ⟨rfl,rfl⟩:g'=g∧off'=0:=by
      have:=Option.some.inj he
      simp only [Addr.mk.injEq] at this
      exact ⟨this.1.symm,this.2.1.symm⟩
     have HJ:=hid (Tryz.strings_Join g' 0 cap lineWords { data:= #[32]} wr (fun j x hj=>hcell j _ (by show ((lineWords.map Value.string))[j]? =_;rw [List.getElem?_map,hj];rfl)) hgl (by decide) hpt.2.1 (by decide))
     rw [show (⟨(Lib.join (lineWords.map (·.data.toList)) (ByteArray.mk #[32]).data.toList).toArray⟩:ByteArray)={ data:= #[50,32,54,48,32,34,120,34,32,45,32,53,32,53,112,45,49]} from rfl,show lineWords.length=6 from rfl] at HJ
     have HBW:=hid hbw
     clear hown hpt hcell hl hbw he
     go_wp2_with (go_at_call 48;go_loud ((with_reducible refine (HJ.out).mono ?_);rintro e w2 ⟨rfl,hb2⟩))
     go_ret
     exact ⟨rfl,by have:=HBW.out;exact Gr⟩
attribute [local go_sem] ord_lt ord_eq ord_gt ord_ne run_store_float run_equalIn_float
theorem holds_shown (W:World):Calls Tryz.prog 19 #[.agg #[.int .i64 0,.int .i64 5,.int .i64 2],.agg #[.bool true,.int .i64 0,.float .f64 4612811918334230528]] W fun e w'=>e= .returned (.bool true)∧Below W.heap.size W w':=by
 have h:=holds_any 0 5 2 ⟨0,true,4612811918334230528⟩ (by decide) (by decide) ⟨by decide,by decide⟩ W
 rw [show holdsB 5 2 ⟨0,true,4612811918334230528⟩=true by decide+kernel] at h
 exact h
theorem compare_shown (W:World):Calls Tryz.prog 21 #[.agg #[.bool false,.int .i64 5,.float .f64 0],.agg #[.bool true,.int .i64 0,.float .f64 4612811918334230528]] W fun e w'=>e= .returned (.int .i64 1)∧Below W.heap.size W w':=by
 have h:=compare_num ⟨5,false,0⟩ ⟨0,true,4612811918334230528⟩ ⟨by decide,by decide⟩ ⟨by decide,by decide⟩ W
 rw [show cmpN ⟨5,false,0⟩ ⟨0,true,4612811918334230528⟩=1 by decide+kernel] at h
 exact h
set_option maxHeartbeats 1000000 in
theorem shown18_any (w:World) (hT:Tabs w):Calls Tryz.prog 8 #[] w fun e w'=>e= .returned (.bool true)∧Below w.heap.size w w':=by
 have HS:=hid holds_shown;have CS:=hid compare_shown;have HT:=hid hT
 clear hT
 go_enter Tryz.func8,Tryz.ntmps8
 go_upto_region 2 with fail
 obtain ⟨X,hX⟩:∃X,(((w.alloc (.cells #[.string { data:= #[120]},.bool false,.string { data:= #[]},.bool true] 65)).alloc (.cells #[.bool false,.int .i64 5,.float .f64 0,.bool true,.int .i64 0,.float .f64 4612811918334230528] 63)).alloc (.cells #[.int .i64 2,.int .i64 60,.slice (some ⟨w.heap.size,0,none⟩) 2 2,.slice (some ⟨w.heap.size+1,0,none⟩) 2 2] 37))=X:=⟨_,rfl⟩
 have hB:Below w.heap.size w X:=by rw [←hX];exact Gr
 have hz:X.heap.size=w.heap.size+1+1+1:=by rw [←hX];simp only [World.size_alloc]
 have a0:X.cell? ⟨w.heap.size,0,none⟩=some (.string { data:= #[120]}):=by subst hX;go_simp
 have a1:X.cell? ⟨w.heap.size,1,none⟩=some (.bool false):=by subst hX;go_simp
 have a2:X.cell? ⟨w.heap.size,2,none⟩=some (.string { data:= #[]}):=by subst hX;go_simp
 have a3:X.cell? ⟨w.heap.size,3,none⟩=some (.bool true):=by subst hX;go_simp
 have b0:X.cell? ⟨w.heap.size+1,0,none⟩=some (.bool false):=by subst hX;go_simp
 have b1:X.cell? ⟨w.heap.size+1,1,none⟩=some (.int .i64 5):=by subst hX;go_simp
 have b2:X.cell? ⟨w.heap.size+1,2,none⟩=some (.float .f64 0):=by subst hX;go_simp
 have b3:X.cell? ⟨w.heap.size+1,3,none⟩=some (.bool true):=by subst hX;go_simp
 have b4:X.cell? ⟨w.heap.size+1,4,none⟩=some (.int .i64 0):=by subst hX;go_simp
 have b5:X.cell? ⟨w.heap.size+1,5,none⟩=some (.float .f64 4612811918334230528):=by subst hX;go_simp
 have l0:X.cell? ⟨w.heap.size+1+1,0,none⟩=some (.int .i64 2):=by subst hX;go_simp
 have l1:X.cell? ⟨w.heap.size+1+1,1,none⟩=some (.int .i64 60):=by subst hX;go_simp
 have l2:X.cell? ⟨w.heap.size+1+1,2,none⟩=some (.slice (some ⟨w.heap.size,0,none⟩) 2 2):=by subst hX;go_simp
 have l3:X.cell? ⟨w.heap.size+1+1,3,none⟩=some (.slice (some ⟨w.heap.size+1,0,none⟩) 2 2):=by subst hX;go_simp
 have TX:=hid (fun W (h:Below X.heap.size X W)=>text_shown w.heap.size (w.heap.size+1) W (HT.out.below (hB.step h) (Nat.le_refl _)) (cell_step a0 h) (cell_step a1 h) (cell_step a2 h) (cell_step a3 h) (cell_step b0 h) (cell_step b1 h) (cell_step b2 h) (cell_step b3 h) (cell_step b4 h) (cell_step b5 h))
 have y0:=World.plus_cell b0;have y1:=World.plus_cell b1;have y2:=World.plus_cell b2;have y3:=World.plus_cell b3;have y4:=World.plus_cell b4;have y5:=World.plus_cell b5
 have z0:=World.plus_cell l0;have z1:=World.plus_cell l1;have z2:=World.plus_cell l2;have z3:=World.plus_cell l3
 rw [hX]
 clear a0 a1 a2 a3 b0 b1 b2 b3 b4 b5 l0 l1 l2 l3 hX
 refine wp_region_plus (by kernel_rfl) (by kernel_rfl) ?_
 repeat (first|go_big_quiet_skip|(go_big_quiet_want;go_big_quiet_op;first|go_big_quiet_on|go_big_quiet_call ((first|(go_at_call 20;exact Calls.plus_of (TX.out _ (World.plus_below _ _)))|(go_at_call 19;exact Calls.plus_of (HS.out _))|(go_at_call 21;exact Calls.plus_of (CS.out _))))))
 refine wpQuiet_nil ?_
 rintro _ ⟨xq,rfl⟩
 have kB:=World.plus_below X xq
 go_wp2
 go_ret
 exact ⟨rfl,hB.trans (kB.mono hB.size)⟩
set_option maxHeartbeats 1000000 in
theorem cloneV_any (v:Value) (n:Nat) (cs:List Value) (w:World) (hv:SlAt w v n 2 cs) (hn:n≤1000000) (h1:∀u∈cs,u.oneCell'=true):
  Calls Tryz.prog 67 #[v] w fun e w'=>∃v',e= .returned v'∧w'.ownsRow w.heap.size 65 2 v' n cs∧Below w.heap.size w w':=by
 obtain ⟨i0,hi,hiz0,hiz1,hiz2⟩:=info_parts info_val
 have HV:=hid hv;have H1:=hid h1
 obtain ⟨ao,cap,rfl,hc1,hc2,hc3⟩:=SlAt.shape hv
 cases ao with
 |none=>
  obtain rfl:=hc3 rfl
  obtain rfl:n=0:=by omega
  have hnil:cs=[]:=List.eq_nil_of_length_eq_zero (by simpa using hv.1)
  subst hnil
  clear hv h1 HV
  have hq:=fun W:World=>Lib.run_eql_slice_nil (P:=Tryz.prog) W 34 65 none 0 0 0 0 Tryz.underlying34
  go_enter Tryz.func67,Tryz.ntmps67
  go_wp2
  go_ret
  exact ⟨_,rfl,World.ownsRow_nil _ _ _ _,Below.refl _ _⟩
 |some a=>
  clear hv h1 hc3
  have hq:=fun W:World=>Lib.run_eql_slice_nil (P:=Tryz.prog) W 34 65 (some a) n cap 0 0 Tryz.underlying34
  have HO:=hid (World.ownsRow_lit (base:=w.heap.size) (e:=65) (size:=2) w #[] 0 (Nat.le_refl _) (by unfold maxLen;omega) (by simp))
  go_enter Tryz.func67,Tryz.ntmps67
  go_wp2_with (at_builtin;go_loud (refine wpList_append_sl _ rfl _ _ 34 rfl w.heap.size 65 i0 (.agg #[.string { data:= #[]},.bool false]) 2 24 Tryz.underlying34 hi hiz0 hiz1 hiz2 rfl (by decide) (.slice (some ⟨w.heap.size,0,none⟩) 0 0) 0 [] rfl HO.out (.slice (some a) n cap) n cs rfl (SlAt.alloc HV.out _) H1.out (by unfold maxLen;omega) (by omega) (by simp) ?_);intro v1 w1 hown1 hgrow1 hb1)
  have hB:=own_below HO.out hgrow1 ((Below.refl _ _).alloc (Nat.le_refl _) _) (Nat.le_refl _)
  go_ret
  exact ⟨v1,rfl,by simpa using hown1,hB⟩
attribute [local go_sem] run_store_float run_equalIn_float
theorem checkQ_typed {ds ms:List ByteArray} {g:Int} {d:QryD} {L:List (Nat×FilD)} (h:checkQ ds ms g d L=0):isOfB ds ms g d=true:=by
 unfold checkQ at h
 split at h
 ·split at h
  ·assumption
  ·cases h
 ·cases h
theorem isOfB_parts {ds ms:List ByteArray} {g:Int} {d:QryD} (h:isOfB ds ms g d=true):sizesB d=true∧d.aggs.all (typedB ds ms g)=true∧d.having.all (condOkB d.aggs.length)=true∧d.order.all (keyOkB d.aggs.length d.by_.length)=true:=by
 unfold isOfB at h
 simp only [Bool.and_eq_true] at h
 exact ⟨h.1,h.2.1,h.2.2.2.2.2.1,h.2.2.2.2.2.2⟩
theorem nums_any (S:Nat→Prop) (D:Nat) (v:GrpV) (d:GroupD) (q:QryV) (dq:QryD) (vd vm:Value) (ds ms:List ByteArray) (g:Int) (am an:Addr) (w:World) (hd:StrsSl w vd ds) (hm:StrsSl w vm ms) (td:Texts ds) (tm:Texts ms) (hg:GrpN (fun _=>True) w v d) (gok:GrpOk d) (hsm:GSm d)
  (hq:QryIs w q dq) (hs:QSm dq) (hkd:∀a∈dq.aggs,I64 a.kind) (hf:FilS S w D [.int .i64 q.kind,.string q.name,.slice q.wa q.wn q.wc,.int .i64 q.fr,.int .i64 q.till,.slice q.la q.ln q.lc] dq.wher) (hfs:FilSm D dq.wher) (hS:SentF am an w) (hT:TypeR w):
  Calls Tryz.prog 28 #[.agg #[vd,vm,.int .i64 g],.agg q.cells,.agg v.cells] w (NumsPost (fstL (numsOf ds ms g dq.aggs d)) (numsErr ds ms g dq (flatN D 1 dq.wher) d) w):=by
 have HC:=fun W (h:Below w.heap.size w W)=>qcheck_any S D q dq vd vm ds ms g am an W (hd.below h) (hm.below h) td tm (hq.all.below h).is hs (hf.below h) hfs (hS.below h)
 by_cases h0:checkQ ds ms g dq (flatN D 1 dq.wher)=0
 ·by_cases hok:gOkB ms.length d=true
  ·exact nums_go v d q dq _ vd vm ds ms g w hd hm td tm hg gok hsm hq.aggs hkd hs.aggs HC (isOfB_parts (checkQ_typed h0)).2.1 h0 hok hT
  ·exact nums_bad v d q dq _ vd vm ds ms g w hd hm hg hsm tm.1 HC h0 (by simpa using hok) _
 ·exact nums_early v d q dq _ vd vm ds ms g w hd hm HC h0 _
theorem linfoT:(Tryz.prog.info? 37).map (·.size)=some 4:=by kernel_rfl
def OwnLine (d:GroupD) (na:Option Addr) (nn nc:Nat) (w:World) (e:Ending) (w':World):Prop:=
 ∃ka kc,e= .returned (.agg #[.int .i64 d.st,.int .i64 d.tm,.slice ka d.key.length kc,.slice na nn nc])∧SlS (fun b=>w.heap.size≤b) w' (.slice ka d.key.length kc) d.key.length 2 (d.key.flatMap ValD.cells)∧Below w.heap.size w w'
theorem own_any (v:GrpV) (d:GroupD) (na:Option Addr) (nn nc:Nat) (w:World) (hg:GrpN (fun _=>True) w v d) (hl:d.key.length≤1000000):
  Calls Tryz.prog 31 #[.agg v.cells,.slice na nn nc] w (OwnLine d na nn nc w):=by
 obtain ⟨p0,p1,p2,p3,p4⟩:=SlAt.parts hg.key.sl
 have e0:=hg.st;have e1:=hg.tm
 have H1:∀u∈d.key.flatMap ValD.cells,u.oneCell'=true:=by
  intro u hu
  obtain ⟨x,_,hx⟩:=List.mem_flatMap.1 hu
  simp only [ValD.cells,List.mem_cons,List.not_mem_nil,or_false] at hx
  rcases hx with rfl|rfl<;>rfl
 have HC:=hid (fun W (h:Below w.heap.size w W)=>cloneV_any _ _ _ W ((hg.below h).key.sl) hl H1)
 obtain ⟨st,tm,ka,kn,kc,n,sa,sn,sc,ma,mn,mc,xa,xn,xc⟩:=v
 dsimp only at*
 subst e0 e1 p0
 go_enter Tryz.func31,Tryz.ntmps31
 go_upto_region 1 with fail
 obtain ⟨x0,hx0⟩:∃x,((w.alloc (.cells (GrpV.mk d.st d.tm ka d.key.length kc n sa sn sc ma mn mc xa xn xc).cells 79)).alloc (.cells #[.int .i64 0,.int .i64 0,.slice none 0 0,.slice none 0 0] 37))=x:=⟨_,rfl⟩
 have hB0:Below w.heap.size w x0:=by rw [←hx0];exact Gr
 have hz0:x0.heap.size=w.heap.size+2:=by rw [←hx0];simp
 have hl0:x0.heap[w.heap.size+1]? =some (.cells #[.int .i64 0,.int .i64 0,.slice none 0 0,.slice none 0 0] 37 (0,0)):=by rw [←hx0];exact Bk
 have hg0:x0.heap[w.heap.size]? =some (.cells (GrpV.mk d.st d.tm ka d.key.length kc n sa sn sc ma mn mc xa xn xc).cells 79 (0,0)):=by rw [←hx0];exact Bk
 rw [hx0]
 clear hx0 hg
 have a_0:x0.cell? ⟨w.heap.size,0,none⟩=some (.int .i64 d.st):=cell_blk hg0 rfl
 have a_1:x0.cell? ⟨w.heap.size,1,none⟩=some (.int .i64 d.tm):=cell_blk hg0 rfl
 have a_2:x0.cell? ⟨w.heap.size,2,none⟩=some (.slice ka d.key.length kc):=cell_blk hg0 rfl
 have hS0:(fun w':World=>w'.cell? ⟨w.heap.size,0,none⟩=some (.int .i64 d.st)∧w'.cell? ⟨w.heap.size,1,none⟩=some (.int .i64 d.tm)∧w'.cell? ⟨w.heap.size,2,none⟩=some (.slice ka d.key.length kc)) x0.drew:=⟨a_0,a_1,a_2⟩
 refine wp_region_some (fun w':World=>w'.cell? ⟨w.heap.size,0,none⟩=some (.int .i64 d.st)∧w'.cell? ⟨w.heap.size,1,none⟩=some (.int .i64 d.tm)∧w'.cell? ⟨w.heap.size,2,none⟩=some (.slice ka d.key.length kc)) [8,9] (by kernel_rfl) ?_
 refine Tk 0 hS0 ?_
 refine Tk 1 hS0 ?_
 refine Tk 2 hS0 ?_
 refine Tk 3 hS0 ?_
 refine Tk 4 hS0 ?_
 refine Tk 5 hS0 ?_
 refine Tk 7 hS0 ?_
 refine wpMix_next (t:=6) (by kernel_rfl) ?_
 simp only [opsAt,Ol]
 go_wp2_with (go_at_call 67;go_loud ((with_reducible refine (HC.out _ (Below.drew hB0)).mono ?_);rintro e y1 ⟨v5,rfl,ho,hb5⟩))
 have hb1:Below x0.heap.size x0 y1:=(Below.drew (Below.refl _ _)).trans hb5
 refine ⟨⟨cell_step a_0 hb1,cell_step a_1 hb1,cell_step a_2 hb1⟩,?_⟩
 obtain ⟨xa1,xc1,e,_⟩:=SlAt.shape (SlAt.own ho)
 subst e
 have hl1:=hid (blk_below hl0 hb1)
 have hs1:=hid (SlS.own ho)
 have hz1:=hid hb1
 clear hb5 hS0 a_0 a_1 a_2 hg0 hl0
 refine wpMix_rest [8,9] (by kernel_rfl) ?_
 simp only [opsAt,Ol]
 go_wp2_with (go_loud (refine wpList_store_blk rfl _ _ _ rfl _ _ rfl rfl _ _ hl1.out (by exact linfoT) (by rfl) (by simp [Value.oneCell']) ?_;intro y2 hh3 hg3 hz3))
 have hk:∀b,w.heap.size≤b→b≠w.heap.size+1→b<y1.heap.size→y2.heap[b]? =y1.heap[b]? :=fun b _ h2 h3=>hg3.block b h3 (fun e=>h2 (Option.some.inj e))
 have r_0:y2.cell? ⟨w.heap.size+1,0,none⟩=some (.int .i64 d.st):=cell_blk hh3 rfl
 have r_1:y2.cell? ⟨w.heap.size+1,1,none⟩=some (.int .i64 d.tm):=cell_blk hh3 rfl
 have r_2:y2.cell? ⟨w.heap.size+1,2,none⟩=some (.slice xa1 d.key.length xc1):=cell_blk hh3 rfl
 have r_3:y2.cell? ⟨w.heap.size+1,3,none⟩=some (.slice na nn nc):=cell_blk hh3 rfl
 have hs2:=hid (SlS.keep (w':=y2) (T:=fun b=>w.heap.size≤b) hs1.out (fun b hb=>by have:=(ho.lt b hb).1;simp only [World.size_drew] at this;omega) (fun b hb hlt=>hk b (by have:=(ho.lt b hb).1;simp only [World.size_drew] at this;omega) (by have:=(ho.lt b hb).1;simp only [World.size_drew] at this;omega) hlt))
 have hB2:Below w.heap.size w y2:=(hB0.trans (hb1.mono (by omega))).grown hg3 (by have:=hb1.size;omega) (fun r e=>by cases e;omega)
 have HB2:=hid hB2
 clear hk hh3 hg3 hz3 hl1 hs1 hz1 ho hb1 hB0 hB2
 go_upto_region 9 with fail
 ((show bodyPost _ _ _ _ _ _);refine bodyPost_ret (by simp only [results,Tryz.results31];go_simp;try rfl) rfl ?_)
 exact ⟨xa1,xc1,rfl,hs2.out,HB2.out⟩
def lineG (ds ms:List ByteArray) (g:Int) (q:QryD) (d:GroupD):LineD:=⟨d.key,fstL (numsOf ds ms g q.aggs d)⟩
def grpErr (ds ms:List ByteArray) (g:Int) (q:QryD) (L:List (Nat×FilD)) (d:GroupD):Int:=
 if numsErr ds ms g q L d=0 then (if d.key.length=q.by_.length then 0 else 152) else numsErr ds ms g q L d
def linesErr (ds ms:List ByteArray) (g:Int) (q:QryD) (L:List (Nat×FilD)):List GroupD→Int
 |[]=>0
 |d::gs=>if grpErr ds ms g q L d=0 then linesErr ds ms g q L gs else grpErr ds ms g q L d
def condL (c:CondD) (l:LineD):Bool:=holdsB c.op c.n (l.nums.getD c.pos.toNat ⟨0,false,0⟩)
def holdL (q:QryD) (l:LineD):Bool:=q.having.all fun c=>condL c l
def keptI (ds ms:List ByteArray) (g:Int) (q:QryD) (gs:List GroupD):List Nat:=
 (List.range gs.length).filter fun i=>match gs[i]? with|some d=>holdL q (lineG ds ms g q d)|none=>false
def ltI (ds ms:List ByteArray) (g:Int) (q:QryD) (gs:List GroupD) (i j:Nat):Prop:=
 ∃a b,gs[i]? =some a∧gs[j]? =some b∧(cmpK q.order (lineG ds ms g q a) (lineG ds ms g q b)<0∨cmpK q.order (lineG ds ms g q a) (lineG ds ms g q b)=0∧i<j)
theorem keptI_snoc (ds ms:List ByteArray) (g:Int) (q:QryD) (gs:List GroupD) (d:GroupD):keptI ds ms g q (gs++[d])=keptI ds ms g q gs++(if holdL q (lineG ds ms g q d)=true then [gs.length] else []):=by
 unfold keptI
 rw [List.length_append,List.length_singleton,List.range_succ,List.filter_append]
 congr 1
 ·refine List.filter_congr fun i hi=> ?_
  rw [List.mem_range] at hi
  rw [List.getElem?_append_left hi]
 ·rw [List.filter_cons,List.getElem?_append_right (Nat.le_refl _),Nat.sub_self]
  simp only [List.getElem?_cons_zero,List.filter_nil]
theorem linesErr_snoc (ds ms:List ByteArray) (g:Int) (q:QryD) (L:List (Nat×FilD)) (d:GroupD):∀gs:List GroupD,linesErr ds ms g q L gs=0→linesErr ds ms g q L (gs++[d])=grpErr ds ms g q L d
 |[],_=>by
  rw [List.nil_append]
  unfold linesErr linesErr
  split
  ·rename_i h;rw [h]
  ·rfl
 |c::gs,h=>by
  rw [List.cons_append]
  unfold linesErr at h ⊢
  split at h
  ·rename_i h0
   rw [if_pos h0]
   exact linesErr_snoc ds ms g q L d gs h
  ·rename_i h0;exact absurd h h0
theorem linesErr_at (ds ms:List ByteArray) (g:Int) (q:QryD) (L:List (Nat×FilD)) (d:GroupD) (more:List GroupD):∀gs:List GroupD,linesErr ds ms g q L gs=0→grpErr ds ms g q L d≠0→linesErr ds ms g q L (gs++d::more)=grpErr ds ms g q L d
 |[],_,h=>by
  rw [List.nil_append]
  unfold linesErr
  rw [if_neg h]
 |c::gs,h,h1=>by
  rw [List.cons_append]
  unfold linesErr at h ⊢
  split at h
  ·rename_i h0
   rw [if_pos h0]
   exact linesErr_at ds ms g q L d more gs h h1
  ·rename_i h0;exact absurd h h0
def aggFl (a:AggD):Bool:=if a.kind=1 then false else if a.kind=2 then false else if a.kind=3 then false else if a.kind=4 then false else true
theorem numG_fl (d:GroupD) (p:Nat) (a:AggD):(numG d p a.kind).1.fl=aggFl a:=by
 unfold numG aggFl
 (repeat' split)<;>rfl
theorem toV_64 (n:Int):I64 (toV n):=by
 unfold toV I64
 split
 ·unfold wrap64;omega
 ·omega
theorem getD_i64 {l:List Int} (h:∀x∈l,I64 x) (i:Nat):I64 (l.getD i 0):=by
 rw [List.getD_eq_getElem?_getD]
 cases hi:l[i]? with
 |none=>show I64 0;unfold I64;omega
 |some x=>exact h x (List.mem_of_getElem? hi)
theorem numG_ok {d:GroupD} (ok:GrpOk d) (p:Nat) (k:Int):NumOk (numG d p k).1:=by
 have z:I64 0:=by unfold I64;omega
 have f0:(0:Nat)<2^64:=by decide
 unfold numG
 split
 ·exact ⟨ok.n,f0⟩
 ·split
  ·exact ⟨toV_64 _,f0⟩
  ·split
   ·exact ⟨getD_i64 ok.mins _,f0⟩
   ·split
    ·exact ⟨getD_i64 ok.maxs _,f0⟩
    ·refine ⟨z,ofF_lt ?_⟩
     rw [List.getD_eq_getElem?_getD]
     cases hi:d.sums[p]? with
     |none=>show I128 0;unfold I128;omega
     |some x=>exact ok.sums x (List.mem_of_getElem? hi)
theorem line_ok {d:GroupD} (ok:GrpOk d) (ds ms:List ByteArray) (g:Int) (q:QryD):∀v∈(lineG ds ms g q d).nums,NumOk v:=by
 intro v hv
 unfold lineG fstL numsOf at hv
 simp only [List.map_map,List.mem_map,Function.comp] at hv
 obtain ⟨a,_,rfl⟩:=hv
 exact numG_ok ok _ _
theorem line_form {ds ms:List ByteArray} {g:Int} {q:QryD} {L:List (Nat×FilD)} {d:GroupD} (h:grpErr ds ms g q L d=0):FormL q.by_.length (q.aggs.map aggFl) (lineG ds ms g q d):=by
 constructor
 ·unfold grpErr at h
  split at h
  ·split at h
   ·assumption
   ·cases h
  ·rename_i h0;exact absurd h h0
 ·unfold lineG fstL numsOf
  simp only [List.map_map]
  refine List.map_congr_left fun a _=> ?_
  exact numG_fl d _ a
theorem line_len (ds ms:List ByteArray) (g:Int) (q:QryD) (d:GroupD):(lineG ds ms g q d).nums.length=q.aggs.length:=by unfold lineG fstL numsOf;simp
theorem sorted_one {α:Type} {R:α→α→Prop}:∀{l m:List α},l.Perm m→(∀x∈l,∀y∈l,R x y→R y x→False)→l.Pairwise R→m.Pairwise R→l=m
 |[],m,hp,_,_,_=>(List.nil_perm.1 hp).symm
 |x::l,[],hp,_,_,_=>by have:=hp.length_eq;simp at this
 |x::l,y::m,hp,hR,hl,hm=>by
  obtain rfl:x=y:=by
   rcases List.mem_cons.1 (hp.mem_iff.1 (List.mem_cons_self ..)) with h|h
   ·exact h
   ·rcases List.mem_cons.1 (hp.mem_iff.2 (List.mem_cons_self ..)) with h'|h'
    ·exact h'.symm
    ·exact (hR x (List.mem_cons_self ..) y (List.mem_cons_of_mem _ h') ((List.pairwise_cons.1 hl).1 y h') ((List.pairwise_cons.1 hm).1 x h)).elim
  rw [sorted_one (List.Perm.cons_inv hp) (fun a ha b hb=>hR a (List.mem_cons_of_mem _ ha) b (List.mem_cons_of_mem _ hb)) (List.pairwise_cons.1 hl).2 (List.pairwise_cons.1 hm).2]
theorem lines1_any (b1:Nat) (na:Option Addr) (nc:Nat) (ns:List NumD) (c:CondD) (w:World) (hb:w.cell? ⟨b1,0,none⟩=some (.slice na ns.length nc)) (hn:NumsSl w (.slice na ns.length nc) ns) (ok:∀v∈ns,NumOk v) (h0:0≤c.pos) (h1:c.pos.toNat<ns.length) (hl:ns.length≤1000000) (ho:I64 c.op) (hi:I64 c.n):
  Calls Tryz.prog 29 #[.agg #[.int .i64 c.pos,.int .i64 c.op,.int .i64 c.n],.pointer (some ⟨b1,0,none⟩)] w fun e w'=>e= .returned (.bool (!condL c ⟨[],ns⟩))∧Below w.heap.size w w':=by
 obtain ⟨p0,p1,p2,_,p4⟩:=SlAt.parts hn
 have hlc:=hn.1
 obtain ⟨b,off,rfl,hc⟩:=p4 (by rw [hlc];omega)
 obtain ⟨pos,op,n⟩:=c
 dsimp only at*
 obtain ⟨i,rfl⟩:=Int.eq_ofNat_of_zero_le h0
 have hin:i<ns.length:=by simpa using h1
 have c0:w.cell? ⟨b,off+i*3,none⟩=some (.bool ns[i].fl):=hc _ _ ((flat_at 3 NumD.cells NumD.cells_len ns i 0 (by decide) hin).trans rfl)
 have c1:w.cell? ⟨b,off+i*3+1,none⟩=some (.int .i64 ns[i].n):=hc _ _ ((flat_at 3 NumD.cells NumD.cells_len ns i 1 (by decide) hin).trans rfl)
 have c2:w.cell? ⟨b,off+i*3+2,none⟩=some (.float .f64 ns[i].f):=hc _ _ ((flat_at 3 NumD.cells NumD.cells_len ns i 2 (by decide) hin).trans rfl)
 have hcd:condL ⟨(i:Int),op,n⟩ ⟨[],ns⟩=holdsB op n ns[i]:=by
  unfold condL
  simp only [Int.toNat_natCast]
  rw [List.getD_eq_getElem?_getD,List.getElem?_eq_getElem hin]
  rfl
 rw [hcd]
 have HH:=hid (fun W=>holds_any (i:Int) op n ns[i] hi ho (ok _ (List.getElem_mem hin)) W)
 obtain ⟨r,hr⟩:∃r,holdsB op n ns[i]=r:=⟨_,rfl⟩
 rw [hr] at HH ⊢
 obtain ⟨N,hN⟩:∃N,ns.length=N:=⟨_,rfl⟩
 rw [hN] at hb hin hl
 have hinI:(i:Int)<(N:Int):=by omega
 have h0I:(0:Int)≤(i:Int):=by omega
 generalize ns[i].fl=x0 at*;generalize ns[i].n=x1 at*;generalize ns[i].f=x2 at*
 clear hc p4 ok hcd hr hlc hn p0 p1 p2 h1 h0
 obtain ⟨X,hX⟩:∃X,w.alloc (.cells #[.int .i64 (i:Int),.int .i64 op,.int .i64 n] 57)=X:=⟨_,rfl⟩
 have hB:Below w.heap.size w X:=by rw [←hX];exact Gr
 have q0:X.cell? ⟨w.heap.size,0,none⟩=some (.int .i64 (i:Int)):=by subst hX;go_simp
 have q1:X.cell? ⟨w.heap.size,1,none⟩=some (.int .i64 op):=by subst hX;go_simp
 have q2:X.cell? ⟨w.heap.size,2,none⟩=some (.int .i64 n):=by subst hX;go_simp
 have a0:=World.plus_cell q0;have a1:=World.plus_cell q1;have a2:=World.plus_cell q2
 have d:=World.plus_cell (cell_step hb hB)
 have d0:=World.plus_cell (cell_step c0 hB);have d1:=World.plus_cell (cell_step c1 hB);have d2:=World.plus_cell (cell_step c2 hB)
 go_enter Tryz.func29,Tryz.ntmps29
 go_wp2_with fail
 try rw [hX]
 clear hX c0 c1 c2 q0 q1 q2 hb
 refine wp_region_plus (by kernel_rfl) (by kernel_rfl) ?_
 repeat (first|go_big_quiet_skip|(go_big_quiet_want;go_big_quiet_op;first|go_big_quiet_on|go_big_quiet_call (((go_at_call 19;exact Calls.plus_of (HH.out _))))))
 refine wpQuiet_nil ?_
 rintro _ ⟨xq,rfl⟩
 have HB2:=hid (hB.trans ((World.plus_below X xq).mono hB.size))
 generalize World.plus X xq=Y at*
 go_wp2
 ((show bodyPost _ _ _ _ _ _);refine bodyPost_ret (by simp only [results,Tryz.results29];go_simp;try rfl) rfl ?_)
 exact ⟨rfl,HB2.out⟩
set_option maxHeartbeats 1000000 in
theorem lcond_idx (b1:Nat) (v:Value) (l:List CondD) (p:CondD→Bool) (w:World) (hv:CondsSl w v l) (hl:l.length≤1000000) (HF:∀(x:CondD) (W:World),x∈l→Below w.heap.size w W→Calls Tryz.prog 29 #[.agg #[.int .i64 x.pos,.int .i64 x.op,.int .i64 x.n],.pointer (some ⟨b1,0,none⟩)] W fun e w'=>e= .returned (.bool (p x))∧Below W.heap.size W w') (j:Nat) (hj:j≤l.length) (hpre:∀i (hi:i<j),p (l[i]'(by omega))=false) (hat:∀hj:j<l.length,p l[j]=true):
  Calls Tryz.prog 66 #[v,.func (.func 29) #[] #[.pointer (some ⟨b1,0,none⟩)]] w fun e w'=>e= .returned (.int .i64 (if j<l.length then (j:Int) else -1))∧Below w.heap.size w w':=by
 obtain ⟨ao,cap,rfl,h1,h2,h3,hA⟩:=cond_parts hv
 have HA:=hid hA;have HP:=hid hpre;have HT:=hid hat;have HFF:=hid HF
 obtain ⟨L,hL⟩:∃L,l.length=L:=⟨_,rfl⟩
 have HL:=hid hL
 rw [hL] at hj hl h1 ⊢
 clear hpre hat hL hv HF hA
 unfold maxLen at h2
 go_enter Tryz.func66,Tryz.ntmps66
 go_wp2
 go_loopw [8] (fun i wr=>∃k:Nat,k≤j∧i= .int .i64 k∧Below w.heap.size w wr) (fun i _=>L-(intOf i).toNat)
 case atStart=>exact ⟨0,Nat.zero_le _,rfl,Below.refl _ _⟩
 case round=>
  obtain ⟨k,hk,rfl,hbel⟩:=hrel
  by_cases hkL:k<L
  ·have hlen:k<l.length:=by rw [HL.out];exact hkL
   have h00:0<l.length:=by omega
   obtain ⟨b,off,rfl,hA⟩:=HA.out h00
   obtain ⟨c0,c1,c2⟩:=hA k hlen
   replace c0:=cell_step c0 hbel;replace c1:=cell_step c1 hbel;replace c2:=cell_step c2 hbel
   have HI:=hid (HFF.out l[k] wr (List.getElem_mem hlen) hbel)
   have hok:p l[k]= !decide (k<j):=by
    by_cases h:k<j
    ·rw [HP.out k h];simp [h]
    ·obtain rfl:k=j:=by omega
     rw [HT.out];simp
   rw [hok] at HI
   have HB:=hid hbel
   clear hA hok hbel h00
   generalize l[k].pos=f0 at*;generalize l[k].op=f1 at*;generalize l[k].n=f2 at*
   by_cases hkj:k<j
   ·have hd:(!decide (k<j))=false:=by simp [hkj]
    rw [hd] at HI
    clear hd
    go_wp2_with (go_at_call 29;((with_reducible refine HI.out.mono ?_);rintro e w2 ⟨rfl,hb2⟩))
    go_roundw
    case rel=>exact ⟨k+1,hkj,by go_num,by have:=HB.out;exact Gr⟩
    case measure=>simp [intOf];omega
   ·have hd:(!decide (k<j))=true:=by simp [hkj]
    rw [hd] at HI
    clear hd
    obtain rfl:k=j:=by omega
    have HE:Hid ((if k<L then (k:Int) else -1)=(k:Int)):=if_pos hkL
    go_wp2_with (go_at_call 29;((with_reducible refine HI.out.mono ?_);rintro e w2 ⟨rfl,hb2⟩))
    go_ret
    exact ⟨rfl,by have:=HB.out;exact Gr⟩
  ·have HE:Hid ((if j<L then (j:Int) else -1)= -1):=if_neg (by omega)
   have HB:=hid hbel
   clear hbel
   go_wp2
   go_ret
   exact ⟨rfl,by have:=HB.out;exact Gr⟩
theorem lcond_cont (b1:Nat) (v:Value) (l:List CondD) (p:CondD→Bool) (w:World) (hv:CondsSl w v l) (hl:l.length≤1000000) (HF:∀(x:CondD) (W:World),x∈l→Below w.heap.size w W→Calls Tryz.prog 29 #[.agg #[.int .i64 x.pos,.int .i64 x.op,.int .i64 x.n],.pointer (some ⟨b1,0,none⟩)] W fun e w'=>e= .returned (.bool (p x))∧Below W.heap.size W w'):
  Calls Tryz.prog 30 #[v,.func (.func 29) #[] #[.pointer (some ⟨b1,0,none⟩)]] w fun e w'=>e= .returned (.bool (l.any p))∧Below w.heap.size w w':=by
 have H:∃r:Int,(l.any p)=decide (0≤r)∧Calls Tryz.prog 66 #[v,.func (.func 29) #[] #[.pointer (some ⟨b1,0,none⟩)]] w fun e w'=>e= .returned (.int .i64 r)∧Below w.heap.size w w':=by
  rcases firstO p l with ⟨h1,h2⟩|⟨h1,j,h2,h3,h4⟩
  ·refine ⟨-1,by rw [h1];rfl,?_⟩
   refine (lcond_idx b1 v l p w hv hl HF l.length (Nat.le_refl _) (fun i hi=>h2 i hi) (fun h=>absurd h (Nat.lt_irrefl _))).mono fun e w' ⟨he,hw⟩=>⟨?_,hw⟩
   rw [he,if_neg (Nat.lt_irrefl _)]
  ·refine ⟨j,by rw [h1];simp,?_⟩
   refine (lcond_idx b1 v l p w hv hl HF j (by omega) h4 (fun _=>h3)).mono fun e w' ⟨he,hw⟩=>⟨?_,hw⟩
   rw [he,if_pos h2]
 obtain ⟨r,hr,hc⟩:=H
 rw [hr]
 have HC:=hid hc
 clear hr hc HF
 obtain ⟨ao,cap,rfl,_⟩:=cond_parts hv
 clear hv
 go_enter Tryz.func30,Tryz.ntmps30
 go_wp2_with (go_at_call 66;((with_reducible refine (HC.out).mono ?_);rintro e w2 ⟨rfl,hb2⟩))
 go_ret
 exact ⟨rfl,Gr⟩
structure GrpsN (S:Nat→Prop) (w:World) (v:Value) (vs:List GrpV) (gs:List GroupD):Prop where
 len:vs.length=gs.length
 sl:SlS S w v gs.length 7 (vs.flatMap GrpV.list)
 at_:∀(i:Nat) (x:GrpV) (d:GroupD),vs[i]? =some x→gs[i]? =some d→GrpN S w x d
theorem GrpsN.keep {S T:Nat→Prop} {w w':World} {v:Value} {vs:List GrpV} {gs:List GroupD} (h:GrpsN S w v vs gs) (hST:∀b,S b→T b) (hk:∀b,S b→b<w.heap.size→w'.heap[b]? =w.heap[b]?):GrpsN T w' v vs gs:=
 ⟨h.len,h.sl.keep hST hk,fun i x d hx hd=>(h.at_ i x d hx hd).keep hST hk⟩
theorem GrpsN.below {S:Nat→Prop} {w w':World} {v:Value} {vs:List GrpV} {gs:List GroupD} (h:GrpsN S w v vs gs) (hb:Below w.heap.size w w'):GrpsN S w' v vs gs:=h.keep (fun _ h=>h) (fun b _ hl=>hb.block b hl)
theorem GrpV.list_len (x:GrpV):x.list.length=7:=rfl
theorem GrpsN.cells {S:Nat→Prop} {w:World} {la:Option Addr} {n lc:Nat} {vs:List GrpV} {gs:List GroupD} (h:GrpsN S w (.slice la n lc) vs gs) {i:Nat} (hi:i<gs.length):
  ∃b off x d,la=some ⟨b,off,none⟩∧vs[i]? =some x∧gs[i]? =some d∧GrpN S w x d∧
   w.cell? ⟨b,off+i*7,none⟩=some (.int .i64 x.st)∧w.cell? ⟨b,off+i*7+1,none⟩=some (.int .i64 x.tm)∧w.cell? ⟨b,off+i*7+2,none⟩=some (.slice x.ka x.kn x.kc)∧w.cell? ⟨b,off+i*7+3,none⟩=some (.int .i64 x.n)∧
   w.cell? ⟨b,off+i*7+4,none⟩=some (.slice x.sa x.sn x.sc)∧w.cell? ⟨b,off+i*7+5,none⟩=some (.slice x.ma x.mn x.mc)∧w.cell? ⟨b,off+i*7+6,none⟩=some (.slice x.xa x.xn x.xc):=by
 have hlv:=h.len
 have hiv:i<vs.length:=by omega
 obtain ⟨h0,ao,cap,e0,h1,h2,h3,h4⟩:=h.sl
 obtain ⟨b,off,rfl,_,hc⟩:=h4 (by rw [h0];omega)
 simp only [Value.slice.injEq] at e0
 have e:∀r,r<7→∀u,vs[i].list[r]? =some u→w.cell? ⟨b,off+i*7+r,none⟩=some u:=by
  intro r hr u hu
  rw [Nat.add_assoc]
  exact hc _ _ ((flat_at 7 GrpV.list GrpV.list_len vs i r hr hiv).trans hu)
 exact ⟨b,off,vs[i],gs[i],e0.1,List.getElem?_eq_getElem hiv,List.getElem?_eq_getElem hi,h.at_ i _ _ (List.getElem?_eq_getElem hiv) (List.getElem?_eq_getElem hi),e 0 (by decide) _ rfl,e 1 (by decide) _ rfl,e 2 (by decide) _ rfl,e 3 (by decide) _ rfl,e 4 (by decide) _ rfl,e 5 (by decide) _ rfl,e 6 (by decide) _ rfl⟩
def ToldE (ds ms:List ByteArray) (g:Int) (q:QryD) (gs:List GroupD) (e:El):Prop:=∃d,gs[e.i]? =some d∧e.v.st=d.st∧e.v.tm=d.tm∧e.l=lineG ds ms g q d
def elCells (T:List El):List Value:=T.flatMap (fun e=>e.v.cells.toList)
theorem SlS.lt' {S:Nat→Prop} {w:World} {v:Value} {n size:Nat} {cs:List Value} (h:SlS S w v n size cs):SlS (fun b=>S b∧b<w.heap.size) w v n size cs:=h.lt
theorem LnN.lt {S:Nat→Prop} {w:World} {v:LnV} {l:LineD} (h:LnN S w v l):LnN (fun b=>S b∧b<w.heap.size) w v l:=⟨h.key.lt,h.nums.lt,h.ok⟩
structure LnsSt (ds ms:List ByteArray) (g:Int) (q:QryD) (L:List (Nat×FilD)) (gs:List GroupD) (w:World) (sc qc:Array Value) (v:Value) (T:List El) (j:Nat) (X:World):Prop where
 bs:X.heap[w.heap.size]? =some (.cells sc 45 (0,0))
 bq:X.heap[w.heap.size+1]? =some (.cells qc 33 (0,0))
 bel:Below w.heap.size w X
 own:X.ownsRow (w.heap.size+1+1) 37 4 v T.length (elCells T)
 nl:T=[]→v= .slice none 0 0
 el:∀e∈T,LnN (fun b=>w.heap.size+1+1≤b∧some b≠v.ownBlock) X e.v e.l
 ix:T.map (·.i)=keptI ds ms g q (gs.take j)
 td:∀e∈T,ToldE ds ms g q gs e
 er:linesErr ds ms g q L (gs.take j)=0
theorem LnsSt.step {ds ms:List ByteArray} {g:Int} {q:QryD} {L:List (Nat×FilD)} {gs:List GroupD} {w:World} {sc qc:Array Value} {v:Value} {T:List El} {j:Nat} {X Y:World} (h:LnsSt ds ms g q L gs w sc qc v T j X) (hb:Below X.heap.size X Y):LnsSt ds ms g q L gs w sc qc v T j Y:=
 ⟨blk_below h.bs hb,blk_below h.bq hb,h.bel.step hb,row_below h.own hb,h.nl,fun e he=>(h.el e he).below hb,h.ix,h.td,h.er⟩
theorem take_snoc {α:Type} {l:List α} {j:Nat} {d:α} (h:l[j]? =some d):l.take (j+1)=l.take j++[d]:=by
 obtain ⟨h1,h2⟩:=List.getElem?_eq_some_iff.1 h
 rw [List.take_succ_eq_append_getElem h1,h2]
theorem take_len {α:Type} {l:List α} {j:Nat} {d:α} (h:l[j]? =some d):(l.take j).length=j:=by
 obtain ⟨h1,h2⟩:=List.getElem?_eq_some_iff.1 h
 rw [List.length_take]
 omega
theorem LnsSt.skip {ds ms:List ByteArray} {g:Int} {q:QryD} {L:List (Nat×FilD)} {gs:List GroupD} {w:World} {sc qc:Array Value} {v:Value} {T:List El} {j:Nat} {X:World} (h:LnsSt ds ms g q L gs w sc qc v T j X) {d:GroupD} (hd:gs[j]? =some d) (he:grpErr ds ms g q L d=0) (hh:holdL q (lineG ds ms g q d)=false):LnsSt ds ms g q L gs w sc qc v T (j+1) X:=
 ⟨h.bs,h.bq,h.bel,h.own,h.nl,h.el,by rw [take_snoc hd,keptI_snoc,hh,h.ix];simp,h.td,by rw [take_snoc hd,linesErr_snoc _ _ _ _ _ _ _ h.er,he]⟩
theorem LnsSt.push {ds ms:List ByteArray} {g:Int} {q:QryD} {L:List (Nat×FilD)} {gs:List GroupD} {w:World} {sc qc:Array Value} {v v':Value} {T:List El} {j:Nat} {X Y:World} (h:LnsSt ds ms g q L gs w sc qc v T j X) {d:GroupD} (hd:gs[j]? =some d) (he:grpErr ds ms g q L d=0) (hh:holdL q (lineG ds ms g q d)=true)
  {u:LnV} (hu:LnN (fun b=>w.heap.size+1+1≤b∧some b≠v.ownBlock) X u (lineG ds ms g q d)) (h1:u.st=d.st) (h2:u.tm=d.tm)
  (ho:Y.ownsRow (w.heap.size+1+1) 37 4 v' (T.length+1) (elCells T++u.cells.toList)) (hg:X.grownBy Y v.ownBlock) (hv:v'.ownBlock=v.ownBlock∨v'.ownBlock=some X.heap.size):LnsSt ds ms g q L gs w sc qc v' (T++[⟨u,lineG ds ms g q d,j⟩]) (j+1) Y:=by
 have hk:∀(x:LnV) (l:LineD),LnN (fun b=>w.heap.size+1+1≤b∧some b≠v.ownBlock) X x l→LnN (fun b=>w.heap.size+1+1≤b∧some b≠v'.ownBlock) Y x l:=fun x l hx=>
  hx.lt.keep (fun b hb=>⟨hb.1.1,by
   rcases hv with e|e
   ·rw [e];exact hb.1.2
   ·rw [e];intro e2;have:=Option.some.inj e2;omega⟩) (fun b hb hlt=>hg.block b hlt (fun e=>hb.1.2 (by rw [e])))
 refine ⟨own_blk h.own hg (by omega) h.bs,own_blk h.own hg (by omega) h.bq,own_below h.own hg h.bel (by omega),?_,fun e=>by simp at e,fun e he'=> ?_,?_,fun e he'=> ?_,by rw [take_snoc hd,linesErr_snoc _ _ _ _ _ _ _ h.er,he]⟩
 ·have:elCells (T++[⟨u,lineG ds ms g q d,j⟩])=elCells T++u.cells.toList:=by unfold elCells;simp
  rw [this,List.length_append,List.length_singleton]
  exact ho
 ·rcases List.mem_append.1 he' with he'|he'
  ·exact hk _ _ (h.el e he')
  ·rw [List.mem_singleton] at he'
   subst he'
   exact hk _ _ hu
 ·rw [take_snoc hd,keptI_snoc,hh,List.map_append,h.ix,take_len hd]
  simp
 ·rcases List.mem_append.1 he' with he'|he'
  ·exact h.td e he'
  ·rw [List.mem_singleton] at he'
   subst he'
   exact ⟨d,hd,h1,h2,rfl⟩
theorem keptI_sorted (ds ms:List ByteArray) (g:Int) (q:QryD) (gs:List GroupD):(keptI ds ms g q gs).Pairwise (· < ·):=(List.pairwise_lt_range (n:=gs.length)).filter _
theorem keptI_len (ds ms:List ByteArray) (g:Int) (q:QryD) (gs:List GroupD):(keptI ds ms g q gs).length≤gs.length:=by
 have:=List.length_filter_le (fun i=>match gs[i]? with|some d=>holdL q (lineG ds ms g q d)|none=>false) (List.range gs.length)
 rw [List.length_range] at this
 exact this
theorem linesErr_all {ds ms:List ByteArray} {g:Int} {q:QryD} {L:List (Nat×FilD)}:∀{gs:List GroupD},linesErr ds ms g q L gs=0→∀d∈gs,grpErr ds ms g q L d=0
 |[],_,d,hd=>by cases hd
 |c::gs,h,d,hd=>by
  unfold linesErr at h
  split at h
  ·rename_i h0
   rcases List.mem_cons.1 hd with rfl|hd
   ·exact h0
   ·exact linesErr_all h d hd
  ·rename_i h0;exact absurd h h0
theorem LnsSt.sort {ds ms:List ByteArray} {g:Int} {q:QryD} {L:List (Nat×FilD)} {gs:List GroupD} {w:World} {sc qc:Array Value} {v:Value} {T:List El} {X:World} (h:LnsSt ds ms g q L gs w sc qc v T gs.length X) (qv:QryV) (hq:QryIs w qv q) (hs:QSm q) (hT:T≠[]):
  ∃B cap,v= .slice (some ⟨B,0,none⟩) T.length cap∧w.heap.size+1+1≤B∧T.length≤cap∧cap≤maxLen∧SortSt X X B T∧CmpOk X B qv q.order q.by_.length (q.aggs.map aggFl) T∧T.Pairwise (fun x y=>x.i<y.i)∧T.length≤gs.length:=by
 have hix:=h.ix
 rw [List.take_length] at hix
 have her:=h.er
 rw [List.take_length] at her
 have hlen:0<T.length:=List.length_pos_iff.2 hT
 rcases h.own.2 with ⟨_,h0⟩|⟨B,cap,cur,rfl,hb,hbk,hn,hc,hcs,hcur⟩
 ·omega
 ·refine ⟨B,cap,rfl,hb,hn,hc,⟨⟨cur,hbk,by rw [hcs];exact Nat.mul_le_mul_right 4 hn,fun i e j hi hj=> ?_⟩,grown_refl _ _⟩,⟨?_,?_,fun e he=>⟨?_,?_⟩⟩,?_,?_⟩
  ·have h1:(elCells T)[i*4+j]? =e.v.cells[j]? :=by
    obtain ⟨hi1,hi2⟩:=List.getElem?_eq_some_iff.1 hi
    unfold elCells
    rw [flat_at 4 (fun e:El=>e.v.cells.toList) (fun _=>rfl) T i j hj hi1,hi2]
    simp
   rw [←h1,←hcur,List.getElem?_take]
   have hil:=(List.getElem?_eq_some_iff.1 hi).1
   rw [if_pos (by omega)]
   simp
  ·exact SlS.keep (SlAt.all hq.order) (fun b hb'=>by omega) (fun b hb' _=>h.bel.block b hb')
  ·have:=hs.order;omega
  ·exact (h.el e he).keep (fun b hb'=>fun e2=>hb'.2 (by rw [e2];rfl)) (fun _ _ _=>rfl)
  ·obtain ⟨d,hd,_,_,hl⟩:=h.td e he
   unfold FormE
   rw [hl]
   exact line_form (linesErr_all her d (List.mem_of_getElem? hd))
  ·have:=keptI_sorted ds ms g q gs
   rw [←hix,List.pairwise_map] at this
   exact this
  ·have:=keptI_len ds ms g q gs
   rw [←hix,List.length_map] at this
   exact this
set_option maxHeartbeats 4000000 in
theorem insertion_nil (c:Value) (w:World):
  Calls Tryz.prog 128 #[.slice none 0 0,.int .i64 0,.int .i64 0,c] w fun e w'=>e= .returned (.tuple #[])∧w'=w:=by
 go_enter Tryz.func128,Tryz.ntmps128
 go_wp2
 refine wp_loop_rounds 1 ?_
 rw [rounds_succ]
 go_wp2
 go_end0
 exact ⟨rfl,rfl⟩
set_option maxHeartbeats 4000000 in
theorem stable_nil (c:Value) (w:World):
  Calls Tryz.prog 68 #[.slice none 0 0,.int .i64 0,c] w fun e w'=>e= .returned (.tuple #[])∧w'=w:=by
 have HI:=hid (fun W=>insertion_nil c W)
 go_enter Tryz.func68,Tryz.ntmps68
 go_wp2
 refine wp_loop_rounds 1 ?_
 rw [rounds_succ]
 go_wp2_with (go_at_call 128;go_loud ((with_reducible refine (HI.out _).mono ?_);rintro e w1 ⟨rfl,rfl⟩))
 refine wp_loop_rounds 1 ?_
 rw [rounds_succ]
 go_wp2
 go_end0
 exact ⟨rfl,rfl⟩
set_option maxHeartbeats 4000000 in
theorem sortStable_nil (c:Value) (w:World):
  Calls Tryz.prog 32 #[.slice none 0 0,c] w fun e w'=>e= .returned (.tuple #[])∧w'=w:=by
 have HI:=hid (fun W=>stable_nil c W)
 go_enter Tryz.func32,Tryz.ntmps32
 go_wp2_with (go_at_call 68;go_loud ((with_reducible refine (HI.out _).mono ?_);rintro e w1 ⟨rfl,rfl⟩))
 go_end0
 exact ⟨rfl,rfl⟩
def limN (limit:Int) (n:Nat):Nat:=if 0<limit then min n limit.toNat else n
def linesRes (ds ms:List ByteArray) (g:Int) (q:QryD) (L:List (Nat×FilD)) (gs:List GroupD):Int:=if checkQ ds ms g q L=0 then linesErr ds ms g q L gs else checkQ ds ms g q L
structure LinesAt (ds ms:List ByteArray) (g:Int) (q:QryD) (gs:List GroupD) (base:Nat) (w':World) (v:Value) (T:List El):Prop where
 perm:(T.map (·.i)).Perm (keptI ds ms g q gs)
 sorted:T.Pairwise (ltE q.order)
 td:∀e∈T,ToldE ds ms g q gs e
 el:∀e∈T,LnN (fun b=>base≤b) w' e.v e.l
 at_:SlS (fun b=>base≤b) w' v (limN q.limit T.length) 4 (elCells (T.take (limN q.limit T.length)))
def LinesPost (ds ms:List ByteArray) (g:Int) (q:QryD) (L:List (Nat×FilD)) (gs:List GroupD) (w:World) (e:Ending) (w':World):Prop:=
 ∃v,e= .returned (.tuple #[v,.int .i64 (linesRes ds ms g q L gs)])∧Below w.heap.size w w'∧
  ((linesRes ds ms g q L gs≠0∧v= .slice none 0 0)∨(linesRes ds ms g q L gs=0∧∃T,LinesAt ds ms g q gs w.heap.size w' v T))
theorem info_line:(Tryz.prog.info? 37).map (fun i=>(i.zero,i.size,i.bytes))=some (some (.agg #[.int .i64 0,.int .i64 0,.slice none 0 0,.slice none 0 0]),4,64):=by kernel_rfl
theorem ginfo7:(Tryz.prog.info? 79).map (·.size)=some 7:=by kernel_rfl
theorem sinfo3:(Tryz.prog.info? 45).map (·.size)=some 3:=by kernel_rfl
theorem qinfo14:(Tryz.prog.info? 33).map (·.size)=some 14:=by kernel_rfl
theorem lines_early (q:QryV) (dq:QryD) (L:List (Nat×FilD)) (vd vm vl:Value) (ds ms:List ByteArray) (g:Int) (gs:List GroupD) (w:World) (hd:StrsSl w vd ds) (hm:StrsSl w vm ms)
  (HC:∀W,Below w.heap.size w W→Calls Tryz.prog 27 #[.agg #[vd,vm,.int .i64 g],.agg q.cells] W (IntPost (checkQ ds ms g dq L:Nat) W)) (hne:checkQ ds ms g dq L≠0):
  Calls Tryz.prog 15 #[.agg #[vd,vm,.int .i64 g],.agg q.cells,vl] w (LinesPost ds ms g dq L gs w):=by
 unfold LinesPost linesRes
 rw [if_neg hne]
 replace HC:=hid HC
 obtain ⟨r,hr⟩:∃r,checkQ ds ms g dq L=r:=⟨_,rfl⟩
 rw [hr] at HC hne ⊢
 obtain ⟨ad,cd,rfl,_,_,_⟩:=SlAt.shape hd
 obtain ⟨am',cm,rfl,_,_,_⟩:=SlAt.shape hm
 have h1:((r:Int)==0)=false:=by simpa using hne
 have h2:¬(r:Int)=0:=by omega
 have H2:=hid h2
 clear hd hm hr
 obtain ⟨aa,LA,ac,ba,LB,bc,mode,sa',LS,sc',every,kind,name,wa,wn,wk,fr,till,la,ln,lc,ha,LH,hc,oa,LO,oc,limit⟩:=q
 dsimp only [QryV.cells] at*
 go_enter Tryz.func15,Tryz.ntmps15
 go_wp2
 refine wp_scope_fwd ?_
 go_wp2_with (go_at_call 27;go_loud ((with_reducible refine (HC.out _ Gr).mono ?_);rintro e w1 ⟨rfl,hb1⟩))
 (refine wp_goto ?_;go_step;refine jumpFwd_goto rfl ?_;go_wp2)
 (first|rw [jumpFwd_ret]|rw [Exit.noGoto_ret]|skip);((show bodyPost _ _ _ _ _ _);refine bodyPost_ret (by simp only [results,Tryz.results15];go_simp;try rfl) rfl ?_)
 exact ⟨_,rfl,Gr,.inl ⟨H2.out,rfl⟩⟩
end Go.Proofs.YtejleplhmkmegaaGreatDoor
