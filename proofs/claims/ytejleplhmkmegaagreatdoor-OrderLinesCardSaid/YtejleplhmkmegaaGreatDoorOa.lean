/- Texts joined: Base, SchA, MapB, SchB, SchC, SchD, OpenA, Same, OpenB, Mem, SchE, SchF, AppSl, SchG, SchH. -/
import Derived.Test.YtejleplhmkmegaaGreatDoorRows
import Derived.Handy
import Derived.Deep.QuietTactic
import Derived.Lib.OthersKept
import Derived.Laws.RangeAny
import Derived.Maps.Own
import Derived.Maps.OwnOps
import Derived.Maps.Views
import Derived.StringKeys
import Derived.Lib.AppendZeros
import Derived.SizedLaws
import Derived.Lib.SmallJoins
import Derived.ChangeMaps5
import Derived.BigQuiet
import Derived.ChangeSlices
import Derived.Laws.AppendOwnNone
import Derived.Maps.AppendAt
import Derived.Deep.AppendLies
import Derived.Deep.RegionHeld3
set_option linter.unusedVariables false
set_option linter.unusedSimpArgs false
namespace Go.RowKit
theorem Below.step {w W w1:World} (h:Below w.heap.size w W) (hb:Below W.heap.size W w1):Below w.heap.size w w1:=h.trans (hb.mono h.size)
theorem Below.new {w W:World} (h:Below w.heap.size w W) (o:Obj):Below w.heap.size w (W.alloc o):=h.alloc h.size o
theorem Below.drewN {B:Nat} {a w:World} (h:Below B a w) (n:Nat):Below B a (w.drewN n):=⟨h.os,h.tape,h.output,h.size,h.block⟩
end Go.RowKit
namespace Go
theorem World.ownsRow.base_le {w:World} {b b':Nat} {e:TypeId} {size:Nat} {v:Value} {n:Nat} {xs:List Value} (h:w.ownsRow b e size v n xs) (hb:b'≤b):w.ownsRow b' e size v n xs:=by
 obtain ⟨h1,h2⟩:=h
 refine ⟨h1,?_⟩
 rcases h2 with h2|⟨g,cap,cur,hv,hg,r⟩
 ·exact .inl h2
 ·exact .inr ⟨g,cap,cur,hv,by omega,r⟩
theorem World.ownsRow.shape {w:World} {b:Nat} {e:TypeId} {size:Nat} {v:Value} {n:Nat} {xs:List Value} (h:w.ownsRow b e size v n xs):∃ao cap,v= .slice ao n cap:=by
 rcases h.2 with ⟨rfl,rfl⟩|⟨g,cap,cur,hv,_⟩
 ·exact ⟨none,0,rfl⟩
 ·exact ⟨_,cap,hv⟩
end Go
namespace Go.Proofs.YtejleplhmkmegaaGreatDoor
set_option linter.unusedVariables false
set_option linter.unusedSimpArgs false
open Go.ChangeShapes Go.WideShapes Go.ChangeAt Go.RowKit
theorem hid {p:Prop} (h:p):Hid p:=h
theorem bcell3 {W w1:World} (hb:Below W.heap.size W w1):(∀b o,b<W.heap.size→w1.cell? ⟨b,o,none⟩=W.cell? ⟨b,o,none⟩)∧(∀b o,b<W.heap.size→w1.frozen? ⟨b,o,none⟩=W.frozen? ⟨b,o,none⟩)∧(∀k,k<W.heap.size→k<w1.heap.size)∧W.heap.size≤w1.heap.size:=
 ⟨fun b o h=>hb.cell (p:=⟨b,o,none⟩) h,fun b o h=>hb.frozen (p:=⟨b,o,none⟩) h,fun k h=>Nat.lt_of_lt_of_le h hb.size,hb.size⟩
theorem cell_step {w w1:World} {a:Addr} {v:Value} (h:w.cell? a=some v) (hb:Below w.heap.size w w1):w1.cell? a=some v:=(hb.cell (World.block_lt_of_cell? _ _ h)).trans h
theorem all_take_succ {α:Type} (l:List α) (p:α→Bool) (k:Nat) (h:k<l.length) (hall:(l.take k).all p=true):(l.take (k+1)).all p=p l[k]:=by
 rw [List.take_succ_eq_append_getElem h,List.all_append,hall];simp
theorem all_false_of {α:Type} (l:List α) (p:α→Bool) (k:Nat) (h:k<l.length) (hb:p l[k]=false):l.all p=false:=by
 rw [←Bool.not_eq_true,List.all_eq_true];intro hx
 have:=hx l[k] (List.getElem_mem h)
 rw [this] at hb;cases hb
theorem one_new (w:World) (u:Value) (T:TypeId):∀(j:Nat) (x:Value),[u][j]? =some x→(w.alloc (.cells #[u] T)).cell? ((⟨w.heap.size,0,none⟩:Addr).add j)=some x:=by
 intro j x hj
 match j,hj with
 |0,hj=>simp at hj;subst hj;simp [Addr.add]
theorem one_int (k:IntKind) (x:Int):∀u∈[Value.int k x],u.oneCell'=true:=by
 intro u hu;simp at hu;subst hu;rfl
theorem heap_at {w:World} {o:Obj} {n:Nat} (h:n=w.heap.size):(w.alloc o).heap[n]? =some o:=by
 subst h
 show (w.heap.push o)[w.heap.size]? =some o
 simp
theorem heap_past {w:World} {o:Obj} {n:Nat} (h:n<w.heap.size):(w.alloc o).heap[n]? =w.heap[n]? :=Below.heap_alloc w o n h
theorem heap_set_other {w:World} {b o:Nat} {s:Option Nat} {u:Value} {n:Nat} (h:n≠b):(w.setCell ⟨b,o,s⟩ u).heap[n]? =w.heap[n]? :=Below.heap_setCell w ⟨b,o,s⟩ u n h
theorem heap_set_same {w:World} {b:Nat} {v u:Value} {t:TypeId} (h:w.heap[b]? =some (.cells #[v] t (0,0))):(w.setCell ⟨b,0,none⟩ u).heap[b]? =some (.cells #[u] t (0,0)):=one_setCell h
theorem ite_max (x y:Int):(if x<y then y else x)=max x y:=by rw [Int.max_def];split<;>split<;>omega
theorem ite_min (x y:Int):(if y<x then y else x)=min x y:=by rw [Int.min_def];split<;>split<;>omega
def jumpFwd (P:Program) (c:Code) (Q:Exit→Act→World→Prop):Exit→Act→World→Prop
 | .goto l,a,w=>∃rest,findLabel c l=some rest∧rest.wp P (Exit.noGoto Q) a w
 |e,a,w=>Q e a w
theorem jumpFwd_ret {P:Program} {c:Code} {Q:Exit→Act→World→Prop} {a:Act} {w:World}:jumpFwd P c Q .ret a w=Q .ret a w:=rfl
theorem jumpFwd_goto {P:Program} {c rest:Code} {Q:Exit→Act→World→Prop} {a:Act} {w:World} {l:Nat} (h:findLabel c l=some rest) (hr:rest.wp P (Exit.noGoto Q) a w):jumpFwd P c Q (.goto l) a w:=⟨rest,h,hr⟩
theorem wp_scope_fwd {P:Program} {c:Code} {Q:Exit→Act→World→Prop} {a:Act} {w:World} (h:c.wp P (jumpFwd P c Q) a w):(Code.scope c).wp P Q a w:=by
 intro b k cs
 obtain ⟨e,a₁,w₁,hq,harr⟩:=h b (.inScope c::k) cs
 cases e with
 |normal=>exact ⟨.normal,a₁,w₁,hq,.head step_scope (Steps.trans harr (.one step_inScope))⟩
 |exit id=>exact ⟨.exit id,a₁,w₁,hq,fun k' hk=> .head step_scope (harr k' (by simp [exitTo,hk]))⟩
 |goto l=>
  obtain ⟨rest,hf,hr⟩:=hq
  have hg:gotoIn l (.inScope c::k)=some (.code rest:: .inScope c::k):=by simp [gotoIn,hf]
  obtain ⟨e₂,a₂,w₂,hq₂,harr₂⟩:=hr b (.inScope c::k) cs
  have s0:=Steps.head (P:=P) (step_scope (b:=b) (a:=a) (k:=k) (cs:=cs) (w:=w) (c:=c)) (harr _ hg)
  cases e₂ with
  |normal=>exact ⟨.normal,a₂,w₂,hq₂,Steps.trans s0 (Steps.trans harr₂ (.one step_inScope))⟩
  |exit id=>exact ⟨.exit id,a₂,w₂,hq₂,fun k' hk=>Steps.trans s0 (harr₂ k' (by simp [exitTo,hk]))⟩
  |goto l=>exact hq₂.elim
  |ret=>exact ⟨_,a₂,w₂,hq₂,.of_steps s0 harr₂⟩
  |panic ch=>exact ⟨_,a₂,w₂,hq₂,.of_steps s0 harr₂⟩
  |outgrown=>exact ⟨_,a₂,w₂,hq₂,.of_steps s0 harr₂⟩
 |ret=>exact ⟨_,a₁,w₁,hq,.of_steps (.one step_scope) harr⟩
 |panic ch=>exact ⟨_,a₁,w₁,hq,.of_steps (.one step_scope) harr⟩
 |outgrown=>exact ⟨_,a₁,w₁,hq,.of_steps (.one step_scope) harr⟩
theorem ret_bool {a b:Bool} (h:a=b):Ending.returned (.bool a)= .returned (.bool b):=by rw [h]
theorem ret_int {k:IntKind} {a b:Int} (h:a=b):Ending.returned (.int k a)= .returned (.int k b):=by rw [h]
theorem Gr {n:Nat} {w w':World} (h:Below n w w':=by (repeat' (first|(with_reducible exact Below.refl _ _)|(with_reducible assumption)|(with_reducible refine Below.new ?_ _)|(with_reducible refine Below.alloc ?_ ?_ _)|(with_reducible refine Below.drew ?_)|(with_reducible refine Below.drewN ?_ _)|(with_reducible refine Below.setCell ?_ ?_ _)|(refine Below.step ?_ (by assumption))|go_size))):Below n w w':=h
theorem Bk {P:Prop} (h:P:=by (simp (disch:=first|omega|(simp only [World.size_alloc,World.size_setCell,World.size_drew];done)|(simp only [World.size_alloc,World.size_setCell,World.size_drew];omega)) only [heap_at,heap_past,heap_set_other,heap_set_same])):P:=h
def goodC (i:Nat) (c:UInt8):Bool:=decide (97≤c.toNat∧c.toNat≤122)||(decide (i≠0)&&(decide (c.toNat=95)||decide (48≤c.toNat∧c.toNat≤57)))
def nameB (s:ByteArray):Bool:=decide (0<s.size∧s.size≤20)&&(List.range s.size).all fun i=>goodC i (s.data.toList[i]?.getD 0)
theorem byte_at (s:ByteArray) (i:Nat) (h:i<s.size):s.data.toList[i]?.getD 0=s[i]:=by
 have:i<s.data.toList.length:=by simpa using h
 rw [List.getElem?_eq_getElem this]
 rfl
theorem name_good {s:ByteArray} (h:∀i (hi:i<s.size),goodC i s[i]=true):nameB s=decide (0<s.size∧s.size≤20):=by
 unfold nameB
 have:((List.range s.size).all fun i=>goodC i (s.data.toList[i]?.getD 0))=true:=by
  rw [List.all_eq_true]
  intro i hi
  have hi:=List.mem_range.1 hi
  rw [byte_at s i hi]
  exact h i hi
 rw [this,Bool.and_true]
theorem name_bad {s:ByteArray} {j:Nat} (hj:j<s.size) (h:goodC j s[j]=false):nameB s=false:=by
 unfold nameB
 have:((List.range s.size).all fun i=>goodC i (s.data.toList[i]?.getD 0))=false:=by
  rw [List.all_eq_false]
  refine ⟨j,List.mem_range.2 hj,?_⟩
  rw [byte_at s j hj,h]
  simp
 rw [this,Bool.and_false]
theorem good_or (s:ByteArray):(∀i (hi:i<s.size),goodC i s[i]=true)∨∃j,∃hj:j<s.size,goodC j s[j]=false∧∀i (hi:i<j),goodC i (s[i]'(Nat.lt_trans hi hj))=true:=by
 have H:∀n,n≤s.size→(∀i (hi:i<s.size),i<n→goodC i s[i]=true)∨∃j,∃hj:j<s.size,goodC j s[j]=false∧∀i (hi:i<j),goodC i (s[i]'(Nat.lt_trans hi hj))=true:=by
  intro n
  induction n with
  |zero=>intro _;exact .inl fun i hi h=>absurd h (Nat.not_lt_zero i)
  |succ n ih=>
   intro hn
   rcases ih (by omega) with h|h
   ·by_cases hg:goodC n (s[n]'(by omega))=true
    ·refine .inl fun i hi hin=> ?_
     by_cases e:i=n
     ·subst e;exact hg
     ·exact h i hi (by omega)
    ·exact .inr ⟨n,by omega,by simpa using hg,fun i hi=>h i (by omega) hi⟩
   ·exact .inr h
 rcases H s.size (Nat.le_refl _) with h|h
 ·exact .inl fun i hi=>h i hi hi
 ·exact .inr h
theorem goodC_iff {i:Nat} {c:UInt8}:goodC i c=true↔(97≤c.toNat∧c.toNat≤122)∨(i≠0∧(c.toNat=95∨(48≤c.toNat∧c.toNat≤57))):=by
 unfold goodC
 simp only [Bool.or_eq_true,Bool.and_eq_true,decide_eq_true_eq]
theorem rune_at (w:World) (k:Nat) (s:ByteArray) (pos:Nat) (hk:w.heap[k]? =some (.stringIter s pos)) (h:pos<s.size):
  ∃r v:Nat,(∀ty,(Instr.next (.pointer (some ⟨k,0,none⟩)) true ty).run Tryz.prog w= .ok (.tuple #[.bool true,.int .i64 pos,.int .i32 (r:Int)]) (w.iterAt k s (pos+v)))∧1≤v∧
   (((s[pos]'h).toNat<128∧r=(s[pos]'h).toNat∧v=1)∨(128≤(s[pos]'h).toNat∧128≤r))∧r≤2147483647:=by
 refine ⟨(Utf8.decode s pos).1,(Utf8.decode s pos).2,fun ty=>Lib.run_next_any_at w k s pos ty hk h,?_,?_,decode_le s pos⟩
 ·by_cases ha:(s[pos]'h).toNat<128
  ·rw [decode_ascii s pos h ha];exact Nat.le_refl _
  ·exact (decode_high s pos h (by omega)).2
 ·by_cases ha:(s[pos]'h).toNat<128
  ·rw [decode_ascii s pos h ha];exact .inl ⟨ha,rfl,rfl⟩
  ·exact .inr ⟨by omega,(decode_high s pos h (by omega)).1⟩
set_option maxRecDepth 100000 in
set_option maxHeartbeats 1000000 in
theorem isName_none (s:ByteArray) (w:World) (h0:s.size=0):Calls Tryz.prog 169 #[.string s] w fun e w'=>e= .returned (.bool false)∧Below w.heap.size w w':=by
 obtain rfl:s={ data:= #[]}:=by
  cases s with
  |mk d=>
   have:d.size=0:=h0
   rw [Array.size_eq_zero_iff.1 this]
 clear h0
 have hnx:=fun ty=>run_next_end (P:=Tryz.prog) w { data:= #[]} 0 ty (by decide)
 go_enter Tryz.func169,Tryz.ntmps169
 go_wp2
 refine wp_scope_straight ?_
 go_wp2
 refine wp_label ?_
 go_wp2
 refine wp_loop_rounds 1 ?_
 rw [rounds_succ]
 go_wp2
 (try rw [Exit.noGoto_ret])
 go_ret
 exact ⟨rfl,(Below.refl _ _).alloc (Nat.le_refl _) _⟩
set_option maxRecDepth 100000 in
set_option maxHeartbeats 1000000 in
theorem isName_some (s:ByteArray) (w:World) (h0:0<s.size) (hs:s.size≤9223372036854775807) (b0:Bool) (hb0:decide (s.size≤20)=b0) (j:Nat) (hj:j≤s.size) (h:∀i (hi:i<j),goodC i (s[i]'(by omega))=true)
  (hbad:∀hj:j<s.size,goodC j s[j]=false):
  Calls Tryz.prog 169 #[.string s] w fun e w'=>e= .returned (.bool (b0&&decide (j=s.size)))∧Below w.heap.size w w':=by
 have hne:s.toList.isEmpty=false:=by
  rw [ByteArray.toList_eq]
  have:0<s.data.toList.length:=by simpa using h0
  cases hd:s.data.toList with
  |nil=>rw [hd] at this;simp at this
  |cons a l=>rfl
 have hb1:decide ((s.size:Int)≤20)=b0:=by rw [←hb0];simp;omega
 clear hb0
 go_enter Tryz.func169,Tryz.ntmps169
 go_wp2
 refine wp_scope_straight ?_
 go_wp2
 refine wp_label ?_
 go_wp2
 go_loopw [3] (fun b wr=>∃pos:Nat,pos≤j∧b= .bool b0∧wr.heap[w.heap.size]? =some (.stringIter s pos)∧Below w.heap.size w wr) (fun _ wr=>s.size-wr.iterPos w.heap.size)
 case atStart=>exact ⟨0,Nat.zero_le _,rfl,World.iter_heap w s 0,(Below.refl _ _).alloc (Nat.le_refl _) _⟩
 case round=>
  obtain ⟨pos,hp,rfl,hit,hB⟩:=hrel
  have hsz:w.heap.size<wr.heap.size:=(Array.getElem?_eq_some_iff.1 hit).1
  by_cases hpj:pos<j
  ·have hg:=goodC_iff.1 (h pos hpj)
   obtain ⟨r,v,hnx,hv,hr,hr2⟩:=rune_at wr w.heap.size s pos hit (by omega)
   obtain ⟨c,hc⟩:∃c,(s[pos]'(by omega)).toNat=c:=⟨_,rfl⟩
   rw [hc] at hg hr
   obtain ⟨rfl,rfl⟩:r=c∧v=1:=by omega
   have hit2:=Lib.iterAt_heap wr w.heap.size s pos (pos+1) hit
   have hB2:=Lib.below_iterAt hB (k:=w.heap.size) (Nat.le_refl _) s (pos+1)
   have hm:s.size-(wr.iterAt w.heap.size s (pos+1)).iterPos w.heap.size<s.size-wr.iterPos w.heap.size:=by
    simp only [World.iterPos,hit2,hit];omega
   have HI:=hid hit2;have HB2:=hid hB2;have HM:=hid hm
   clear h hbad hne hb1 hit2 hB2 hm hv hr hc hB hit
   rcases hg with ⟨g1,g2⟩|⟨g0,g1|⟨g1,g2⟩⟩
   ·go_wp2
    go_roundw
    case rel=>exact ⟨pos+1,hpj,rfl,HI.out,HB2.out⟩
    case measure=>exact HM.out
   ·subst g1
    have hp0:((pos:Int)==0)=false:=by simp;omega
    go_wp2
    go_roundw
    case rel=>exact ⟨pos+1,hpj,rfl,HI.out,HB2.out⟩
    case measure=>exact HM.out
   ·have hn:((r:Int) !=95)=true:=by simp;omega
    have hp0:((pos:Int)==0)=false:=by simp;omega
    go_wp2
    go_roundw
    case rel=>exact ⟨pos+1,hpj,rfl,HI.out,HB2.out⟩
    case measure=>exact HM.out
  ·obtain rfl:pos=j:=by omega
   by_cases hps:pos<s.size
   ·have hg:=hbad hps
    obtain ⟨r,v,hnx,hv,hr,hr2⟩:=rune_at wr w.heap.size s pos hit hps
    obtain ⟨c,hc⟩:∃c,(s[pos]'hps).toNat=c:=⟨_,rfl⟩
    have hg2:¬((97≤c∧c≤122)∨(pos≠0∧(c=95∨(48≤c∧c≤57)))):=fun hh=>by
     rw [←hc] at hh
     rw [goodC_iff.2 hh] at hg
     cases hg
    rw [hc] at hr
    have hB2:=Lib.below_iterAt hB (k:=w.heap.size) (Nat.le_refl _) s (pos+v)
    have HB2:=hid hB2
    have HD:Hid (decide (pos=s.size)=false):=by unfold Hid;simp;omega
    have hcase:((r<97∨122<r)∧pos=0)∨((r<97∨122<r)∧0<pos∧r≠95∧(r<48∨57<r)):=by omega
    clear h hbad hne hb1 hB2 hv hr hc hB hit hg2 hg
    rcases hcase with ⟨g1,g0⟩|⟨g1,g2,g3,g4⟩
    ·have hp0:((pos:Int)==0)=true:=by simp;omega
     clear g0
     rcases g1 with g1|g1
     ·go_wp2
      all_goals ((try rw [Exit.noGoto_ret]);go_ret;exact ⟨ret_bool (by rw [HD.out,Bool.and_false]),HB2.out⟩)
     ·have hd:decide ((r:Int)≤122)=false:=by rw [decide_eq_false_iff_not];omega
      go_wp2
      all_goals ((try rw [Exit.noGoto_ret]);go_ret;exact ⟨ret_bool (by rw [HD.out,Bool.and_false]),HB2.out⟩)
    ·have hp0:((pos:Int)==0)=false:=by simp;omega
     have hn:((r:Int) !=95)=true:=by simp;omega
     clear g3 g2
     have hcase:r<48∨(57<r∧r<97)∨122<r:=by omega
     clear g1 g4
     rcases hcase with g1|⟨g1,g2⟩|g1
     ·go_wp2
      all_goals ((try rw [Exit.noGoto_ret]);go_ret;exact ⟨ret_bool (by rw [HD.out,Bool.and_false]),HB2.out⟩)
     ·have hd2:decide ((57:Int)<r)=true:=by rw [decide_eq_true_eq];omega
      go_wp2
      all_goals ((try rw [Exit.noGoto_ret]);go_ret;exact ⟨ret_bool (by rw [HD.out,Bool.and_false]),HB2.out⟩)
     ·have hd:decide ((r:Int)≤122)=false:=by rw [decide_eq_false_iff_not];omega
      have hd2:decide ((57:Int)<r)=true:=by rw [decide_eq_true_eq];omega
      go_wp2
      all_goals ((try rw [Exit.noGoto_ret]);go_ret;exact ⟨ret_bool (by rw [HD.out,Bool.and_false]),HB2.out⟩)
   ·have hnx:∀ty,(Instr.next (.pointer (some ⟨w.heap.size,0,none⟩)) true ty).run Tryz.prog wr=_:=fun ty=>Lib.run_next_end_at wr w.heap.size s pos ty hit hps
    have HB2:=hid hB
    have HD:Hid (decide (pos=s.size)=true):=by unfold Hid;simp;omega
    clear h hbad hne hb1 hB hit
    go_wp2
    (try rw [Exit.noGoto_ret])
    go_ret
    exact ⟨ret_bool (by rw [HD.out,Bool.and_true]),HB2.out⟩
theorem isName_any (s:ByteArray) (w:World) (hs:s.size≤9223372036854775807):Calls Tryz.prog 169 #[.string s] w fun e w'=>e= .returned (.bool (nameB s))∧Below w.heap.size w w':=by
 by_cases h0:s.size=0
 ·refine (isName_none s w h0).mono fun e w' ⟨he,hw⟩=>⟨he.trans (ret_bool ?_),hw⟩
  unfold nameB;simp [h0]
 ·rcases good_or s with h|⟨j,hj,h1,h2⟩
  ·refine (isName_some s w (by omega) hs _ rfl s.size (Nat.le_refl _) (fun i hi=>h i hi) (fun hh=>absurd hh (Nat.lt_irrefl _))).mono fun e w' ⟨he,hw⟩=>⟨he.trans (ret_bool ?_),hw⟩
   rw [name_good h]
   have:0<s.size:=by omega
   simp [this]
  ·refine (isName_some s w (by omega) hs _ rfl j (by omega) h2 (fun _=>h1)).mono fun e w' ⟨he,hw⟩=>⟨he.trans (ret_bool ?_),hw⟩
   rw [name_bad hj h1]
   have:¬j=s.size:=by omega
   simp [this]
set_option maxRecDepth 100000 in
set_option maxHeartbeats 1000000 in
theorem refIsName_out (s:ByteArray) (w:World) (hs:s.size≤9223372036854775807) (h:s.size=0∨20<s.size):Calls Tryz.prog 130 #[.string s] w fun e w'=>e= .returned (.bool false)∧Below w.heap.size w w':=by
 rcases h with h|h
 all_goals
  go_enter Tryz.func130,Tryz.ntmps130
  go_wp2
  go_ret
  exact ⟨rfl,Gr⟩
set_option maxRecDepth 100000 in
set_option maxHeartbeats 1000000 in
theorem refIsName_head (s:ByteArray) (w:World) (h0:0<s.size) (h1:s.size≤20) (h:(s[0]'h0).toNat<97∨122<(s[0]'h0).toNat):Calls Tryz.prog 130 #[.string s] w fun e w'=>e= .returned (.bool false)∧Below w.heap.size w w':=by
 have hc2:=(s[0]'h0).toNat_lt
 rcases h with h|h
 all_goals
  go_enter Tryz.func130,Tryz.ntmps130
  go_wp2
  all_goals (go_ret;exact ⟨rfl,Gr⟩)
set_option maxRecDepth 100000 in
set_option maxHeartbeats 1000000 in
theorem refIsName_some (s:ByteArray) (w:World) (h0:0<s.size) (h1:s.size≤20) (h2:97≤(s[0]'h0).toNat∧(s[0]'h0).toNat≤122) (j:Nat) (hj:j≤s.size) (h:∀i (hi:i<j),goodC i (s[i]'(by omega))=true)
  (hbad:∀hj:j<s.size,goodC j s[j]=false):
  Calls Tryz.prog 130 #[.string s] w fun e w'=>e= .returned (.bool (decide (j=s.size)))∧Below w.heap.size w w':=by
 have hj0:0<j:=by
  rcases Nat.eq_zero_or_pos j with e|e
  ·subst e
   have:=hbad h0
   rw [goodC_iff.2 (.inl h2)] at this
   cases this
  ·exact e
 obtain ⟨c0,hc0⟩:∃c0,(s[0]'h0).toNat=c0:=⟨_,rfl⟩
 rw [hc0] at h2
 go_enter Tryz.func130,Tryz.ntmps130
 go_wp2
 clear hc0
 go_loop [3] (fun i=>∃k:Nat,k≤j∧i= .int .i64 k) (fun i=>s.size-(intOf i).toNat)
 case atStart=>exact ⟨0,Nat.zero_le _,rfl⟩
 case round=>
  obtain ⟨k,hk,rfl⟩:=hrel
  by_cases hkj:k<j
  ·have hg:=goodC_iff.1 (h k hkj)
   have hc2:=(s[k]'(by omega)).toNat_lt
   obtain ⟨c,hc⟩:∃c,(s[k]'(by omega)).toNat=c:=⟨_,rfl⟩
   rw [hc] at hg hc2
   have hks:k<s.size:=by omega
   clear h hbad
   rcases hg with ⟨g1,g2⟩|⟨g0,g1|⟨g1,g2⟩⟩
   ·go_wp2
    go_round
    case rel=>exact ⟨k+1,hkj,by go_num⟩
    case measure=>simp [intOf];omega
   ·subst g1
    go_wp2
    go_round
    case rel=>exact ⟨k+1,hkj,by go_num⟩
    case measure=>simp [intOf];omega
   ·go_wp2
    go_round
    case rel=>exact ⟨k+1,hkj,by go_num⟩
    case measure=>simp [intOf];omega
  ·obtain rfl:k=j:=by omega
   by_cases hps:k<s.size
   ·have hg:=hbad hps
    have hc2:=(s[k]'hps).toNat_lt
    obtain ⟨c,hc⟩:∃c,(s[k]'hps).toNat=c:=⟨_,rfl⟩
    have hg2:¬((97≤c∧c≤122)∨(k≠0∧(c=95∨(48≤c∧c≤57)))):=fun hh=>by
     rw [←hc] at hh
     rw [goodC_iff.2 hh] at hg
     cases hg
    rw [hc] at hc2
    have HD:Hid (decide (k=s.size)=false):=by unfold Hid;simp;omega
    have hcase:c<48∨(57<c∧c<95)∨c=96∨122<c:=by omega
    clear h hbad hg2 hg
    rcases hcase with g1|⟨g1,g2⟩|g1|g1
    ·have hn:((c:Int)==95)=false:=by simp;omega
     go_wp2
     all_goals (go_ret;exact ⟨ret_bool (by rw [HD.out]),Gr⟩)
    ·have hn:((c:Int)==95)=false:=by simp;omega
     have hn2:decide ((c:Int)≤57)=false:=by rw [decide_eq_false_iff_not];omega
     go_wp2
     all_goals (go_ret;exact ⟨ret_bool (by rw [HD.out]),Gr⟩)
    ·subst g1
     go_wp2
     all_goals (go_ret;exact ⟨ret_bool (by rw [HD.out]),Gr⟩)
    ·have hn:((c:Int)==95)=false:=by simp;omega
     have hn2:decide ((c:Int)≤57)=false:=by rw [decide_eq_false_iff_not];omega
     have hn3:decide ((c:Int)≤122)=false:=by rw [decide_eq_false_iff_not];omega
     go_wp2
     all_goals (go_ret;exact ⟨ret_bool (by rw [HD.out]),Gr⟩)
   ·have HD:Hid (decide (k=s.size)=true):=by unfold Hid;simp;omega
    clear h hbad
    go_wp2
    go_ret
    exact ⟨ret_bool (by rw [HD.out]),Gr⟩
theorem refIsName_any (s:ByteArray) (w:World) (hs:s.size≤9223372036854775807):Calls Tryz.prog 130 #[.string s] w fun e w'=>e= .returned (.bool (nameB s))∧Below w.heap.size w w':=by
 by_cases h0:s.size=0∨20<s.size
 ·refine (refIsName_out s w hs h0).mono fun e w' ⟨he,hw⟩=>⟨he.trans (ret_bool ?_),hw⟩
  unfold nameB
  rw [show decide (0<s.size∧s.size≤20)=false by rw [decide_eq_false_iff_not];omega]
  rfl
 ·have hp:0<s.size:=by omega
  have hl:s.size≤20:=by omega
  by_cases h2:97≤(s[0]'hp).toNat∧(s[0]'hp).toNat≤122
  ·rcases good_or s with h|⟨j,hj,h3,h4⟩
   ·refine (refIsName_some s w hp hl h2 s.size (Nat.le_refl _) (fun i hi=>h i hi) (fun hh=>absurd hh (Nat.lt_irrefl _))).mono fun e w' ⟨he,hw⟩=>⟨he.trans (ret_bool ?_),hw⟩
    rw [name_good h]
    simp [hp,hl]
   ·refine (refIsName_some s w hp hl h2 j (by omega) h4 (fun _=>h3)).mono fun e w' ⟨he,hw⟩=>⟨he.trans (ret_bool ?_),hw⟩
    rw [name_bad hj h3]
    have:¬j=s.size:=by omega
    simp [this]
  ·refine (refIsName_head s w hp hl (by omega)).mono fun e w' ⟨he,hw⟩=>⟨he.trans (ret_bool ?_),hw⟩
   have:goodC 0 (s[0]'hp)=false:=by
    rw [Bool.eq_false_iff]
    intro h
    rcases goodC_iff.1 h with h|⟨h,_⟩
    ·exact h2 h
    ·exact h rfl
   rw [name_bad hp this]
open Go.ChangeMaps Go.MapKept
open Go.Maps (Keyed)
theorem plainElem_bool_inv {H:Type} {P:Program} {e:TypeId} (he:P.underlying e=some .bool) {v:Value} {z:DataW H×List MemPlace} (h:plainElem P e v=some z):∃a,v= .bool a∧z=(.lit (.bool a),[]):=by
 unfold plainElem at h
 rw [he] at h
 cases v<;>simp at h
 exact ⟨_,rfl,h.symm⟩
theorem lookup_bool {H:Type} {P:Program} {k t e:TypeId} {w:World} {b n:Nat} {D:DataW H} (h:w.ownsMap P k (plainElem P e) b n D) (K:Keyed P k) (ht:P.underlying t=some (.map k e)) (he:P.underlying e=some .bool) (hz:(zeroValue e).run P w= .ok (.bool false) w)
  {key:Value} {kl:Lit} (hkey:keyOf P k key=some kl):∃c,(Instr.lookup t (.map (some b)) key false).run P w= .ok (.bool c) w∧D.atKey kl (.lit (.bool false))= .lit (.bool c):=by
 obtain ⟨v,ps,hrun,hv⟩:=h.lookup K ht hz (plainElem_bool he false) hkey
 obtain ⟨c,rfl,hc⟩:=plainElem_bool_inv he hv
 simp only [Prod.mk.injEq] at hc
 exact ⟨c,hrun,hc.1⟩
theorem wpList_lookup_own_bool {H:Type} {P:Program} (w:World) {ops:Array Oper} {rest:List Oper} {o:Oper} {a:Act} {Q:Exit→Act→World→Prop}
  (hg:o.guard=none) (m x:Operand) (t:TypeId) (hop:o.op=Op.lookup t m x false)
  (k e:TypeId) (K:Keyed P k) (ht:P.underlying t=some (.map k e)) (he:P.underlying e=some .bool) (hz:(zeroValue e).run P w= .ok (.bool false) w) (b n:Nat) (D:DataW H)
  (hm:a.eval m= .map (some b)) (hown:w.ownsMap P k (plainElem P e) b n D) (key:Value) (kl:Lit) (hx:a.eval x=key) (hkey:keyOf P k key=some kl)
  (hK:∀c:Bool,D.atKey kl (.lit (.bool false))= .lit (.bool c)→wpList P ops Q rest (a.put o.dst (.bool c)) w):
  wpList P ops Q (o::rest) a w:=by
 refine wpList_plain hg fun K' hK'=> ?_
 obtain ⟨c,hrun,hat⟩:=lookup_bool hown K ht he hz hkey
 unfold Oper.wp
 simp [execOp,hop,hm,hx,hrun,Result.andThen]
 exact hK' _ _ (hK c hat)
open Go.Maps (Keyed)
def StrsAt (w:World) (v:Value) (ss:List ByteArray):Prop:=
 ∃ao cap,v= .slice ao ss.length cap∧(0<ss.length→∃b off,ao=some ⟨b,off,none⟩∧∀j,j<ss.length→w.cell? ⟨b,off+j,none⟩=some (.string (ss[j]?.getD { data:= #[]})))
abbrev strAt (ss:List ByteArray) (j:Nat):ByteArray:=ss[j]?.getD { data:= #[]}
def seenD (l:List ByteArray):DataW Unit:=l.foldl (fun D s=>D.put (.string s.data.toList) (.lit (.bool true))) (.map [])
theorem seenD_snoc (l:List ByteArray) (s:ByteArray):seenD (l++[s])=(seenD l).put (.string s.data.toList) (.lit (.bool true)):=by simp [seenD]
theorem seenD_at (t:ByteArray):∀(l:List ByteArray) (D:DataW Unit) (c:Bool),Maps.IsMap D→D.atKey (.string t.data.toList) (.lit (.bool false))= .lit (.bool c)→
  (l.foldl (fun D s=>D.put (.string s.data.toList) (.lit (.bool true))) D).atKey (.string t.data.toList) (.lit (.bool false))= .lit (.bool (c||l.any fun s=>s.data.toList==t.data.toList))
 |[],D,c,h,e=>by simpa using e
 |s::l,D,c,h,e=>by
  rw [List.foldl_cons,List.any_cons]
  by_cases hs:s.data.toList=t.data.toList
  ·rw [seenD_at t l _ true (h.put _ _) (by rw [hs];exact Maps.atKey_put_same h (by trivial) _ _)]
   simp [hs]
  ·rw [seenD_at t l _ c (h.put _ _) (by rw [Maps.atKey_put_other (fun e=>hs (by simpa using e.symm))];exact e)]
   have:(s.data.toList==t.data.toList)=false:=by simpa using hs
   simp [this]
def seenB (l:List ByteArray) (t:ByteArray):Bool:=l.any fun s=>s.data.toList==t.data.toList
theorem seen_is (l:List ByteArray) (t:ByteArray):(seenD l).atKey (.string t.data.toList) (.lit (.bool false))= .lit (.bool (seenB l t)):=by
 have:=seenD_at t l (.map []) false Maps.isMap_empty rfl
 rw [Bool.false_or] at this
 exact this
def okAt (ss:List ByteArray) (j:Nat):Bool:= !seenB (ss.take j) (strAt ss j)&&nameB (strAt ss j)
def namesB (ss:List ByteArray):Bool:=(List.range ss.length).all (okAt ss)
theorem names_first (ss:List ByteArray):(namesB ss=true∧∀i,i<ss.length→okAt ss i=true)∨(namesB ss=false∧∃j,j<ss.length∧okAt ss j=false∧∀i,i<j→okAt ss i=true):=by
 cases h:namesB ss with
 |true=>
  refine .inl ⟨rfl,fun i hi=> ?_⟩
  unfold namesB at h
  rw [List.all_eq_true] at h
  exact h i (List.mem_range.2 hi)
 |false=>
  refine .inr ⟨rfl,?_⟩
  have hx:∃j,j<ss.length∧okAt ss j=false:=by
   unfold namesB at h
   rw [List.all_eq_false] at h
   obtain ⟨j,hj,hn⟩:=h
   exact ⟨j,List.mem_range.1 hj,by simpa using hn⟩
  obtain ⟨j,hj,hn⟩:=hx
  induction j using Nat.strongRecOn with
  |_ j ih=>
   by_cases hlow:∃i,i<j∧okAt ss i=false
   ·obtain ⟨i,hi,hni⟩:=hlow
    exact ih i hi (by omega) hni
   ·exact ⟨j,hj,hn,fun i hi=>by
     cases ho:okAt ss i with
     |true=>rfl
     |false=>exact absurd ⟨i,hi,ho⟩ hlow⟩
theorem zeroB (w:World):(zeroValue 4).run Tryz.prog w= .ok (.bool false) w:=by kernel_rfl
set_option maxHeartbeats 1000000 in
theorem areNames_to (v:Value) (ss:List ByteArray) (w:World) (hv:StrsAt w v ss) (hl:ss.length≤1000000) (hs:∀s∈ss,s.size≤9223372036854775807) (j:Nat) (hj:j≤ss.length) (hpre:∀i,i<j→okAt ss i=true) (hat:j<ss.length→okAt ss j=false):
  Calls Tryz.prog 105 #[v] w fun e w'=>e= .returned (.bool (decide (j=ss.length)))∧Below w.heap.size w w':=by
 obtain ⟨ao,cap,rfl,hA⟩:=hv
 have HA:=hid hA;have HPRE:=hid hpre;have HAT:=hid hat
 have HZ:=hid (fun k (hk:k<ss.length)=>hs (strAt ss k) (by unfold strAt;rw [List.getElem?_eq_getElem hk];exact List.getElem_mem _))
 have HTK:=hid (fun k (hk:k<ss.length)=>(show ss.take (k+1)=ss.take k++[strAt ss k] by rw [List.take_succ_eq_append_getElem hk];unfold strAt;rw [List.getElem?_eq_getElem hk];rfl))
 obtain ⟨M,hM⟩:∃M,ss.length=M:=⟨_,rfl⟩
 have HM:=hid hM
 rw [hM] at hl hj HA HAT HZ HTK ⊢
 clear hA hpre hat hs hM
 go_enter Tryz.func105,Tryz.ntmps105
 have hmake:∀X,(Instr.makeMap 207 none).run Tryz.prog X= .ok (.map (some X.heap.size)) (X.alloc (.map #[] 0)):=fun X=>by first|exact run_makeMap X _ _ _ Tryz.underlying207|exact run_makeMap _ _|rfl
 go_wp2
 go_loopw [9] (fun i wr=>∃k:Nat,k≤j∧i= .int .i64 k∧wr.ownsMap Tryz.prog 9 (plainElem (H:=Unit) Tryz.prog 4) w.heap.size k (seenD (ss.take k))∧Below w.heap.size w wr) (fun i _=>M-(intOf i).toNat)
 case atStart=>exact ⟨0,Nat.zero_le _,rfl,World.ownsMap_made w _ _ _,Gr⟩
 case round=>
  obtain ⟨k,hk,rfl,hmap,hbel⟩:=hrel
  have hz:=hbel.size
  by_cases hkM:k<M
  ·obtain ⟨b,o,rfl,hc⟩:=HA.out (by omega)
   have e0:=cell_step (hc k hkM) hbel
   have hsz:=HZ.out k hkM
   have htk:=HTK.out k hkM
   obtain ⟨s,hse⟩:∃s,strAt ss k=s:=⟨_,rfl⟩
   have hse':ss[k]?.getD { data:= #[]}=s:=hse
   rw [hse] at hsz htk
   rw [hse'] at e0
   have hkey:keyOf Tryz.prog 9 (.string s)=some (.string s.data.toList):=WideMaps.keyOf_string_mk Tryz.underlying9 (by unfold maxLen;omega)
   have hsn:=seen_is (ss.take k) s
   have hokk:okAt ss k=(!seenB (ss.take k) s&&nameB s):=by unfold okAt;rw [hse]
   have hml:=hmap.lt
   have HTK1:=hid htk;have HSN:=hid hsn;have HOK:=hid hokk;have HKEY:=hid hkey;have HMAP:=hid hmap
   have HN:=hid (fun W=>isName_any s W hsz)
   clear hc hse hse' htk hsn hokk hkey
   by_cases hkj:k<j
   ·have h1:=HPRE.out k hkj
    rw [HOK.out] at h1
    simp only [Bool.and_eq_true,Bool.not_eq_true'] at h1
    obtain ⟨hs1,hn1⟩:=h1
    rw [hn1] at HN
    have HS1:=hid hs1
    clear hs1 hn1
    go_wp2_with (first
     |(at_lookup;go_loud (refine wpList_lookup_own_bool _ rfl _ _ 207 rfl 9 4 (Maps.string_keyed Tryz.underlying9) Tryz.underlying207 Tryz.underlying4 (zeroB _) w.heap.size k (seenD (ss.take k)) rfl HMAP.out _ (.string s.data.toList) rfl HKEY.out ?_;intro c hc;rw [HSN.out,HS1.out] at hc;simp only [DataW.lit.injEq,Lit.bool.injEq] at hc;subst hc))
     |(go_at_call 169;((with_reducible refine (HN.out _).mono ?_);rintro e w2 ⟨rfl,hb2⟩;have hmap2:=hid (HMAP.out.kept (row:=none) ⟨hb2.os,hb2.tape,hb2.output,hb2.size,fun i hi _=>hb2.block i hi⟩ (by simp));have hz2:=hb2.size))
     |(at_mapUpdate;go_loud (refine wpList_mapUpdate_own _ rfl _ _ _ 207 rfl 9 4 (Maps.string_keyed Tryz.underlying9) Tryz.underlying207 _ w.heap.size k (seenD (ss.take k)) rfl hmap2.out (by unfold maxLen;omega) _ _ (.string s.data.toList) rfl rfl HKEY.out (.lit (.bool true)) [] (plainElem_bool Tryz.underlying4 true) ?_);intro w3 hown3 hg3))
    go_roundw
    case rel=>exact ⟨k+1,by omega,by go_num,by rw [HTK1.out,seenD_snoc];exact hown3,(hbel.step hb2).grown hg3 (by omega) (fun r e=>by cases e;exact Nat.le_refl _)⟩
    case measure=>simp [intOf];omega
   ·obtain rfl:k=j:=by omega
    have h1:=HAT.out hkM
    rw [HOK.out] at h1
    have hdec:decide (k=M)=false:=by simp;omega
    cases hsb:seenB (ss.take k) s with
    |true=>
     have HS1:=hid hsb
     clear hsb h1
     go_wp2_with (first
     |(at_lookup;go_loud (refine wpList_lookup_own_bool _ rfl _ _ 207 rfl 9 4 (Maps.string_keyed Tryz.underlying9) Tryz.underlying207 Tryz.underlying4 (zeroB _) w.heap.size k (seenD (ss.take k)) rfl HMAP.out _ (.string s.data.toList) rfl HKEY.out ?_;intro c hc;rw [HSN.out,HS1.out] at hc;simp only [DataW.lit.injEq,Lit.bool.injEq] at hc;subst hc))
     |(go_at_call 169;((with_reducible refine (HN.out _).mono ?_);rintro e w2 ⟨rfl,hb2⟩)))
     go_ret
     exact ⟨ret_bool (by simp [hdec]),Gr⟩
    |false=>
     have hn1:nameB s=false:=by rw [hsb] at h1;simpa using h1
     rw [hn1] at HN
     have HS1:=hid hsb
     clear hsb h1 hn1
     go_wp2_with (first
     |(at_lookup;go_loud (refine wpList_lookup_own_bool _ rfl _ _ 207 rfl 9 4 (Maps.string_keyed Tryz.underlying9) Tryz.underlying207 Tryz.underlying4 (zeroB _) w.heap.size k (seenD (ss.take k)) rfl HMAP.out _ (.string s.data.toList) rfl HKEY.out ?_;intro c hc;rw [HSN.out,HS1.out] at hc;simp only [DataW.lit.injEq,Lit.bool.injEq] at hc;subst hc))
     |(go_at_call 169;((with_reducible refine (HN.out _).mono ?_);rintro e w2 ⟨rfl,hb2⟩)))
     go_ret
     exact ⟨ret_bool (by simp [hdec]),Gr⟩
  ·obtain rfl:k=M:=by omega
   obtain rfl:k=j:=by omega
   have hdec:decide (k=k)=true:=by simp
   have HMAP:=hid hmap
   clear hmap
   go_wp2
   go_ret
   exact ⟨ret_bool (by simp),Gr⟩
theorem areNames_any (v:Value) (ss:List ByteArray) (w:World) (hv:StrsAt w v ss) (hl:ss.length≤1000000) (hs:∀s∈ss,s.size≤9223372036854775807):
  Calls Tryz.prog 105 #[v] w fun e w'=>e= .returned (.bool (namesB ss))∧Below w.heap.size w w':=by
 rcases names_first ss with ⟨h1,h2⟩|⟨h1,j,hj,h2,h3⟩
 ·have:=areNames_to v ss w hv hl hs ss.length (Nat.le_refl _) h2 (fun h=>absurd h (Nat.lt_irrefl _))
  rw [h1]
  simpa using this
 ·have:=areNames_to v ss w hv hl hs j (by omega) h3 (fun _=>h2)
  rw [h1]
  have hd:decide (j=ss.length)=false:=by simp;omega
  rw [hd] at this
  exact this
theorem within_any (n a b:Int) (w:World):Calls Tryz.prog 104 #[.int .i64 n,.int .i64 a,.int .i64 b] w fun e w'=>e= .returned (.bool (decide (a≤n∧n≤b)))∧w=w':=by
 by_cases h1:a≤n
 ·by_cases h2:n≤b
  ·go_enter Tryz.func104,Tryz.ntmps104
   go_wp2
   go_ret
   exact ⟨ret_bool (by simp [h1,h2]),rfl⟩
  ·go_enter Tryz.func104,Tryz.ntmps104
   go_wp2
   go_ret
   exact ⟨ret_bool (by simp [h1,h2]),rfl⟩
 ·go_enter Tryz.func104,Tryz.ntmps104
  go_wp2
  go_ret
  exact ⟨ret_bool (by simp;intro h;omega),rfl⟩
def isValB (s:ByteArray) (nl:Bool):Bool:=decide (s.size≤100)&&(!nl||decide (s.size=0))
set_option maxRecDepth 100000
theorem info_string:(Tryz.prog.info? 9).map (fun i=>(i.zero,i.size,i.bytes))=some (some (.string { data:= #[]}),1,16):=by kernel_rfl
theorem grow_zero (w:World):Calls Tryz.prog 170 #[.slice none 0 0,.int .i64 0] w fun e w'=>e= .returned (.slice none 0 0)∧w=w':=by
 go_enter Tryz.func170,Tryz.ntmps170
 go_wp2
 go_ret
 exact ⟨rfl,rfl⟩
theorem grow_some (n:Nat) (hn:0<n) (hb:n≤1000000) (w:World):Calls Tryz.prog 170 #[.slice none 0 0,.int .i64 (n:Int)] w fun e w'=>∃v,e= .returned v∧w'.ownsRow w.heap.size 9 1 v 0 []∧Below w.heap.size w w':=by
 obtain ⟨i0,hi,hiz0,hiz1,hiz2⟩:=info_parts info_string
 have hw:wrap64 ((n:Int)-0)=(n:Int):=by unfold wrap64;omega
 go_enter Tryz.func170,Tryz.ntmps170
 go_wp2_with (at_builtin;go_loud (refine Lib.wpList_append_run _ rfl _ _ _ _ rfl _ _ rfl rfl _ _ (Lib.run_append_nil_zeros _ 23 3 23 9 i0 (.string { data:= #[]}) .i64 .i64 Tryz.underlying23 Tryz.underlying3 hi hiz0 n hn (by omega) (by omega) (by rw [hiz2];omega)) ?_))
 go_ret
 have hcap:=grownCap_ge w n 0 9
 refine ⟨_,rfl,⟨rfl,.inr ⟨w.heap.size,grownCap w n 0 9,_,rfl,Nat.le_refl _,(show (w.alloc _).heap[w.heap.size]? =_ from heap_at rfl),Nat.zero_le _,grownCap_le_maxLen w n 0 _ (by unfold maxLen;omega),?_,by simp⟩⟩,Gr⟩
 rw [Array.size_append,size_zeroCells,size_zeroCells]
 simp [Value.cells]
 omega
theorem grow_any (n:Nat) (hb:n≤1000000) (w:World):Calls Tryz.prog 170 #[.slice none 0 0,.int .i64 (n:Int)] w fun e w'=>∃v,e= .returned v∧w'.ownsRow w.heap.size 9 1 v 0 []∧Below w.heap.size w w':=by
 by_cases h:n=0
 ·subst h
  exact (grow_zero w).mono fun e w' ⟨h1,h2⟩=>⟨_,h1,World.ownsRow_nil _ _ _ _,h2▸Below.refl _ _⟩
 ·exact grow_some n (by omega) hb w
open Go.Joins
abbrev I64 (n:Int):Prop:= -9223372036854775808≤n∧n≤9223372036854775807
abbrev U64 (n:Int):Prop:=0≤n∧n≤18446744073709551615
theorem i64_of_wf {n:Int} (h:(Lit.int .i64 n).wf=true):I64 n:=by
 simp [Lit.wf,IntKind.min,IntKind.max,IntKind.signed,IntKind.bits] at h
 exact ⟨by omega,by omega⟩
theorem u64_of_wf {n:Int} (h:(Lit.int .u64 n).wf=true):U64 n:=by
 simp [Lit.wf,IntKind.min,IntKind.max,IntKind.signed,IntKind.bits] at h
 exact ⟨by omega,by omega⟩
section
variable {H:Type} {enc:TypeId×Value→H} {W:World} {base:Nat}
end
def IntsAt (w:World) (v:Value) (xs:List Int):Prop:=
 ∃ao cap,v= .slice ao xs.length cap∧(0<xs.length→∃b off,ao=some ⟨b,off,none⟩∧∀j,j<xs.length→w.cell? ⟨b,off+j,none⟩=some (.int .i64 (xs[j]?.getD 0)))
theorem IntsAt.below {w w':World} {v:Value} {xs:List Int} (h:IntsAt w v xs) (hb:Below w.heap.size w w'):IntsAt w' v xs:=by
 obtain ⟨ao,cap,rfl,h⟩:=h
 refine ⟨ao,cap,rfl,fun hl=> ?_⟩
 obtain ⟨b,off,rfl,hc⟩:=h hl
 exact ⟨b,off,rfl,fun j hj=>(hb.cell (p:=⟨b,off+j,none⟩) (World.block_lt_of_cell? _ _ (hc j hj))).trans (hc j hj)⟩
theorem IntsAt.nil {w:World} (ao:Option Addr) (cap:Nat):IntsAt w (.slice ao 0 cap) []:=⟨ao,cap,rfl,fun h=>by simp at h⟩
theorem IntsAt.own {w:World} {base:Nat} {e:TypeId} {v:Value} {xs:List Int} (h:w.ownsRow base e 1 v xs.length (xs.map (Value.int .i64))):IntsAt w v xs:=by
 rcases h.2 with ⟨rfl,h0⟩|⟨g,cap,cur,rfl,_⟩
 ·obtain rfl:xs=[]:=List.length_eq_zero_iff.1 h0
  exact IntsAt.nil _ _
 ·refine ⟨_,cap,rfl,fun hl=>⟨g,0,rfl,fun j hj=> ?_⟩⟩
  have:=h.cellAt j (by omega)
  rw [show (0:Nat)+j=j from by omega,this]
  simp [hj]
theorem IntsAt.lit (w:World) (xs:List Int) (T:TypeId) (cap:Nat):IntsAt (w.alloc (.cells (xs.map (Value.int .i64)).toArray T)) (.slice (some ⟨w.heap.size,0,none⟩) xs.length cap) xs:=
 ⟨_,cap,rfl,fun _=>⟨_,0,rfl,fun j hj=>by rw [World.cell?_alloc_at _ _ _ _ rfl];simp [hj]⟩⟩
theorem spot_none {w:World} {a:Addr} {v:Value} (h:w.cell? a=some v):a.spot=none:=by
 unfold World.cell? at h
 split at h
 ·cases hs:a.spot with
  |none=>rfl
  |some s=>rw [hs] at h;simp at h
 ·cases h
def RowAt (w:World) (ao:Option Addr) (xs:List Int):Prop:=
 0<xs.length→∃b off,ao=some ⟨b,off,none⟩∧∀j,j<xs.length→w.cell? ⟨b,off+j,none⟩=some (.int .i64 (xs[j]?.getD 0))
theorem RowAt.take {w:World} {ao:Option Addr} {xs:List Int} (h:RowAt w ao xs) (k:Nat):RowAt w ao (xs.take k):=fun h0=>by
 obtain ⟨b,o,rfl,hc⟩:=h (by simp at h0;omega)
 refine ⟨b,o,rfl,fun j hj=> ?_⟩
 simp at hj
 rw [hc j (by omega),List.getElem?_take_of_lt (by omega)]
theorem RowAt.below {w w':World} {ao:Option Addr} {xs:List Int} (h:RowAt w ao xs) (hb:Below w.heap.size w w'):RowAt w' ao xs:=fun h0=>by
 obtain ⟨b,o,rfl,hc⟩:=h h0
 exact ⟨b,o,rfl,fun j hj=>(hb.cell (p:=⟨b,o+j,none⟩) (World.block_lt_of_cell? _ _ (hc j hj))).trans (hc j hj)⟩
section
variable {H:Type} {enc:TypeId×Value→H} {W:World} {base:Nat}
end
def SlAt (w:World) (v:Value) (n size:Nat) (cs:List Value):Prop:=
 cs.length=n*size∧∃ao cap,v= .slice ao n cap∧n≤cap∧cap≤maxLen∧(ao=none→cap=0)∧
  (0<cs.length→∃b off,ao=some ⟨b,off,none⟩∧∀j u,cs[j]? =some u→w.cell? ⟨b,off+j,none⟩=some u)
theorem SlAt.below {w w':World} {v:Value} {n size:Nat} {cs:List Value} (h:SlAt w v n size cs) (hb:Below w.heap.size w w'):SlAt w' v n size cs:=by
 obtain ⟨h0,ao,cap,rfl,h1,h2,h3,h⟩:=h
 refine ⟨h0,ao,cap,rfl,h1,h2,h3,fun hl=> ?_⟩
 obtain ⟨b,off,rfl,hc⟩:=h hl
 exact ⟨b,off,rfl,fun j u hj=>(hb.cell (p:=⟨b,off+j,none⟩) (World.block_lt_of_cell? _ _ (hc j u hj))).trans (hc j u hj)⟩
theorem SlAt.len {w:World} {v:Value} {n size:Nat} {cs:List Value} (h:SlAt w v n size cs):cs.length=n*size:=h.1
theorem SlAt.nil (w:World) (size:Nat):SlAt w (.slice none 0 0) 0 size []:=⟨by simp,none,0,rfl,Nat.le_refl _,by simp,fun _=>rfl,fun h=>by simp at h⟩
theorem SlAt.own {w:World} {base:Nat} {e:TypeId} {size:Nat} {v:Value} {n:Nat} {xs:List Value} (h:w.ownsRow base e size v n xs):SlAt w v n size xs:=by
 refine ⟨h.1,?_⟩
 have hk:=h
 rcases h.2 with ⟨rfl,h0⟩|⟨g,cap,cur,rfl,_,_,h3,h4,_,_⟩
 ·subst h0
  exact ⟨none,0,rfl,Nat.le_refl _,by simp,fun _=>rfl,fun hl=>absurd h.1 (by simp;intro e;rw [e] at hl;simp at hl)⟩
 ·refine ⟨_,cap,rfl,h3,h4,(fun h=>(by cases h)),fun hl=>⟨g,0,rfl,fun j u hj=> ?_⟩⟩
  have hjl:j<xs.length:=(List.getElem?_eq_some_iff.1 hj).1
  rw [show 0+j=j from Nat.zero_add j,hk.cellAt j (by rw [←h.1];exact hjl),hj]
theorem SlAt.take {w:World} {ao:Option Addr} {n cap size:Nat} {cs:List Value} (h:SlAt w (.slice ao n cap) n size cs) {k:Nat} (hk:k≤n):SlAt w (.slice ao k cap) k size (cs.take (k*size)):=by
 obtain ⟨h0,ao',cap',e,h1,h2,h3,h⟩:=h
 simp only [Value.slice.injEq,true_and] at e
 obtain ⟨rfl,rfl⟩:=e
 have hle:k*size≤n*size:=Nat.mul_le_mul_right size hk
 refine ⟨by simp;omega,ao,cap,rfl,by omega,h2,h3,fun hl=> ?_⟩
 obtain ⟨b,off,rfl,hc⟩:=h (by simp at hl;omega)
 refine ⟨b,off,rfl,fun j u hj=>hc j u ?_⟩
 have hjl:j<k*size:=by have:=(List.getElem?_eq_some_iff.1 hj).1;simp at this;omega
 rw [List.getElem?_take_of_lt hjl] at hj
 exact hj
theorem SlAt.parts {w:World} {ao:Option Addr} {n m cap size:Nat} {cs:List Value} (h:SlAt w (.slice ao m cap) n size cs):m=n∧n≤cap∧cap≤maxLen∧(ao=none→cap=0)∧
  (0<cs.length→∃b off,ao=some ⟨b,off,none⟩∧∀j u,cs[j]? =some u→w.cell? ⟨b,off+j,none⟩=some u):=by
 obtain ⟨h0,ao',cap',e,h1,h2,h3,h⟩:=h
 simp only [Value.slice.injEq] at e
 obtain ⟨rfl,rfl,rfl⟩:=e
 exact ⟨rfl,h1,h2,h3,h⟩
theorem SlAt.src {w:World} {b off n cap size:Nat} {s:Option Nat} {cs:List Value} (h:SlAt w (.slice (some ⟨b,off,s⟩) n cap) n size cs):∀j u,cs[j]? =some u→w.cell? ((⟨b,off,s⟩:Addr).add j)=some u:=by
 intro j u hj
 obtain ⟨_,_,_,_,h⟩:=h.parts
 have hjl:=(List.getElem?_eq_some_iff.1 hj).1
 obtain ⟨b',o',e,hc⟩:=h (by omega)
 simp only [Option.some.injEq,Addr.mk.injEq] at e
 obtain ⟨rfl,rfl,rfl⟩:=e
 have:(⟨b,off,none⟩:Addr).add j=⟨b,off+j,none⟩:=by unfold Addr.add;split<;>simp_all
 rw [this]
 exact hc j u hj
theorem SlAt.shape {w:World} {v:Value} {n size:Nat} {cs:List Value} (h:SlAt w v n size cs):∃ao cap,v= .slice ao n cap∧n≤cap∧cap≤maxLen∧(ao=none→cap=0):=by
 obtain ⟨_,ao,cap,e,h1,h2,h3,_⟩:=h
 exact ⟨ao,cap,e,h1,h2,h3⟩
theorem flat_len {α β:Type} (k:Nat) (f:α→List β) (hf:∀x,(f x).length=k):∀l:List α,(l.flatMap f).length=l.length*k
 |[]=>by simp
 |x::l=>by rw [List.flatMap_cons,List.length_append,hf,flat_len k f hf l,List.length_cons,Nat.succ_mul];omega
theorem flat_at {α β:Type} (k:Nat) (f:α→List β) (hf:∀x,(f x).length=k):∀(l:List α) (i r:Nat) (hr:r<k) (hi:i<l.length),(l.flatMap f)[i*k+r]? =(f l[i])[r]?
 |[],i,r,hr,hi=>absurd hi (Nat.not_lt_zero i)
 |x::l,0,r,hr,hi=>by
  rw [List.flatMap_cons,Nat.zero_mul,Nat.zero_add,List.getElem?_append_left (by rw [hf];exact hr)];rfl
 |x::l,i+1,r,hr,hi=>by
  rw [List.flatMap_cons,List.getElem?_append_right (by rw [hf,Nat.succ_mul];omega),hf,show (i+1)*k+r-k=i*k+r by rw [Nat.succ_mul];omega,flat_at k f hf l i r hr (by simpa using hi)]
  rfl
theorem flat_take {α β:Type} (k:Nat) (f:α→List β) (hf:∀x,(f x).length=k):∀(l:List α) (m:Nat),(l.flatMap f).take (m*k)=(l.take m).flatMap f
 |[],m=>by simp
 |x::l,0=>by simp
 |x::l,m+1=>by
  rw [List.flatMap_cons,List.take_succ_cons,List.flatMap_cons,List.take_append,hf,show (m+1)*k-k=m*k by rw [Nat.succ_mul];omega,flat_take k f hf l m,List.take_of_length_le (by rw [hf,Nat.succ_mul];omega)]
abbrev strsV (ss:List ByteArray):List Value:=ss.map Value.string
def StrsSl (w:World) (v:Value) (ss:List ByteArray):Prop:=SlAt w v ss.length 1 (strsV ss)
theorem StrsSl.below {w w':World} {v:Value} {ss:List ByteArray} (h:StrsSl w v ss) (hb:Below w.heap.size w w'):StrsSl w' v ss:=SlAt.below h hb
theorem strs_one (l:List ByteArray):∀u∈strsV l,u.oneCell'=true:=by
 intro u hu
 obtain ⟨x,_,rfl⟩:=List.mem_map.1 hu
 rfl
theorem StrsSl.own {w:World} {base:Nat} {e:TypeId} {v:Value} {n:Nat} {ss:List ByteArray} (h:w.ownsRow base e 1 v n (strsV ss)):StrsSl w v ss:=by
 have:=h.1
 simp at this
 subst this
 exact SlAt.own h
def IntsSl (w:World) (v:Value) (xs:List Int):Prop:=SlAt w v xs.length 1 (xs.map (Value.int .i64))
theorem IntsSl.below {w w':World} {v:Value} {xs:List Int} (h:IntsSl w v xs) (hb:Below w.heap.size w w'):IntsSl w' v xs:=SlAt.below h hb
theorem IntsSl.own {w:World} {base:Nat} {e:TypeId} {v:Value} {n:Nat} {xs:List Int} (h:w.ownsRow base e 1 v n (xs.map (Value.int .i64))):IntsSl w v xs:=by
 have:=h.1
 simp at this
 subst this
 exact SlAt.own h
structure ValD where
 s:ByteArray
 nl:Bool
instance:DecidableEq ValD:=fun a b=>decidable_of_iff (a.s=b.s∧a.nl=b.nl) (by cases a;cases b;simp)
def ValD.cells (v:ValD):List Value:=[.string v.s,.bool v.nl]
theorem ValD.cells_len (v:ValD):v.cells.length=2:=rfl
def ValsSl (w:World) (v:Value) (l:List ValD):Prop:=SlAt w v l.length 2 (l.flatMap ValD.cells)
theorem ValsSl.below {w w':World} {v:Value} {l:List ValD} (h:ValsSl w v l) (hb:Below w.heap.size w w'):ValsSl w' v l:=SlAt.below h hb
theorem ValsSl.own {w:World} {base:Nat} {e:TypeId} {v:Value} {n:Nat} {l:List ValD} (h:w.ownsRow base e 2 v n (l.flatMap ValD.cells)):ValsSl w v l:=by
 have:=h.1
 rw [flat_len 2 _ ValD.cells_len] at this
 obtain rfl:l.length=n:=by omega
 exact SlAt.own h
theorem vals_at {l:List ValD} {i:Nat} (hi:i<l.length):(l.flatMap ValD.cells)[i*2]? =some (.string l[i].s)∧(l.flatMap ValD.cells)[i*2+1]? =some (.bool l[i].nl):=
 ⟨(flat_at 2 _ ValD.cells_len l i 0 (by decide) hi).trans rfl,(flat_at 2 _ ValD.cells_len l i 1 (by decide) hi).trans rfl⟩
theorem ValsSl.parts {w:World} {v:Value} {l:List ValD} (h:ValsSl w v l):∃ao cap,v= .slice ao l.length cap∧l.length≤cap∧cap≤maxLen∧(ao=none→cap=0)∧
  (0<l.length→∃b off,ao=some ⟨b,off,none⟩∧∀i (hi:i<l.length),w.cell? ⟨b,off+i*2,none⟩=some (.string l[i].s)∧w.cell? ⟨b,off+i*2+1,none⟩=some (.bool l[i].nl)):=by
 obtain ⟨h0,ao,cap,rfl,h1,h2,h3,h⟩:=h
 refine ⟨ao,cap,rfl,h1,h2,h3,fun hl=> ?_⟩
 obtain ⟨b,off,rfl,hc⟩:=h (by rw [h0];omega)
 exact ⟨b,off,rfl,fun i hi=>⟨hc _ _ (vals_at hi).1,hc _ _ (vals_at hi).2⟩⟩
set_option maxHeartbeats 2000000 in
theorem concat_ss (a1 a2:Addr) (c1 c2:Nat) (s1 s2:List ByteArray) (b:Nat) (w:World) (h1:∀j u,(strsV s1)[j]? =some u→w.cell? (a1.add j)=some u) (h2:∀j u,(strsV s2)[j]? =some u→w.cell? (a2.add j)=some u)
  (l1:s1.length≤1000) (l2:s2.length≤1000) (e1:w.cell? ⟨b,0,none⟩=some (.slice (some a1) s1.length c1)) (e2:w.cell? ⟨b,1,none⟩=some (.slice (some a2) s2.length c2)):
  Calls Tryz.prog 106 #[.slice (some ⟨b,0,none⟩) 2 2] w fun e w'=>∃v,e= .returned v∧w'.ownsRow w.heap.size 9 1 v (s1.length+s2.length) (strsV s1++strsV s2)∧Below w.heap.size w w':=by
 obtain ⟨i0,hi,hiz0,hiz1,hiz2⟩:=info_parts info_string
 have HG:=hid (fun w=>grow_any (s1.length+s2.length) (by omega) w)
 have H1:=hid h1;have H2:=hid h2
 clear h1 h2
 obtain ⟨n1,hn1⟩:∃n1,s1.length=n1:=⟨_,rfl⟩
 obtain ⟨n2,hn2⟩:∃n2,s2.length=n2:=⟨_,rfl⟩
 have HN1:=hid hn1;have HN2:=hid hn2
 rw [hn1] at HG l1 e1 ⊢
 rw [hn2] at HG l2 e2 ⊢
 clear hn1 hn2
 obtain ⟨N,hN⟩:∃N,n1+n2=N:=⟨_,rfl⟩
 rw [hN] at HG ⊢
 have hsum:((n1:Int)+(n2:Int))=(N:Int):=by omega
 go_enter Tryz.func106,Tryz.ntmps106
 go_wp2
 refine wp_loop_rounds 3 ?_
 rw [rounds_succ]
 go_wp2
 rw [rounds_succ]
 go_wp2
 rw [rounds_succ]
 go_wp2_with (go_at_call 170;go_loud ((with_reducible refine (HG.out _).mono ?_);rintro e w1 ⟨v,rfl,hown,hb1⟩;have d1:=cell_step e1 hb1;have d2:=cell_step e2 hb1;have hz1:=hb1.size))
 refine wp_loop_rounds 3 ?_
 rw [rounds_succ]
 go_wp2_with (at_builtin;go_loud (refine wpList_append_own _ rfl _ _ 23 rfl w.heap.size 9 i0 (.string { data:= #[]}) 1 16 Tryz.underlying23 hi hiz0 hiz1 hiz2 rfl (by decide) _ _ _ rfl hown a1 n1 c1 (strsV s1) rfl (by simp [HN1.out]) (fun j u h=>cell_step (H1.out j u h) hb1) (strs_one _) (by unfold maxLen;omega) (by omega) (by omega) ?_);intro v2 w2 hown2 hgr2 hnil2)
 have hB2:Below w.heap.size w w2:=hb1.grown hgr2 (by omega) (fun r e=>(hown.lt r e).1)
 have f2:=cell_step e2 hB2
 have hz2:=hB2.size
 rw [rounds_succ]
 go_wp2_with (at_builtin;go_loud (refine wpList_append_own _ rfl _ _ 23 rfl w.heap.size 9 i0 (.string { data:= #[]}) 1 16 Tryz.underlying23 hi hiz0 hiz1 hiz2 rfl (by decide) _ _ _ rfl hown2 a2 n2 c2 (strsV s2) rfl (by simp [HN2.out]) (fun j u h=>cell_step (H2.out j u h) hB2) (strs_one _) (by unfold maxLen;omega) (by omega) (by omega) ?_);intro v3 w3 hown3 hgr3 hnil3)
 have hB3:Below w.heap.size w w3:=hB2.grown hgr3 (by omega) (fun r e=>(hown2.lt r e).1)
 rw [rounds_succ]
 go_wp2
 go_ret
 exact ⟨v3,rfl,by rw [←hN];simpa using hown3,hB3⟩
set_option maxHeartbeats 2000000 in
theorem concat_ns (a2:Addr) (c2:Nat) (s2:List ByteArray) (b:Nat) (w:World) (h2:∀j u,(strsV s2)[j]? =some u→w.cell? (a2.add j)=some u)
  (l2:s2.length≤1000) (e1:w.cell? ⟨b,0,none⟩=some (.slice none 0 0)) (e2:w.cell? ⟨b,1,none⟩=some (.slice (some a2) s2.length c2)):
  Calls Tryz.prog 106 #[.slice (some ⟨b,0,none⟩) 2 2] w fun e w'=>∃v,e= .returned v∧w'.ownsRow w.heap.size 9 1 v s2.length (strsV s2)∧Below w.heap.size w w':=by
 obtain ⟨i0,hi,hiz0,hiz1,hiz2⟩:=info_parts info_string
 have HG:=hid (fun w=>grow_any s2.length (by omega) w)
 have H2:=hid h2
 clear h2
 obtain ⟨n2,hn2⟩:∃n2,s2.length=n2:=⟨_,rfl⟩
 have HN2:=hid hn2
 rw [hn2] at HG l2 e2 ⊢
 clear hn2
 go_enter Tryz.func106,Tryz.ntmps106
 go_wp2
 refine wp_loop_rounds 3 ?_
 rw [rounds_succ]
 go_wp2
 rw [rounds_succ]
 go_wp2
 rw [rounds_succ]
 go_wp2_with (go_at_call 170;go_loud ((with_reducible refine (HG.out _).mono ?_);rintro e w1 ⟨v,rfl,hown,hb1⟩;have d1:=cell_step e1 hb1;have d2:=cell_step e2 hb1;have hz1:=hb1.size))
 refine wp_loop_rounds 3 ?_
 rw [rounds_succ]
 go_wp2_with (at_builtin;go_loud (refine wpList_append_own_none rfl _ _ 23 rfl w.heap.size 9 i0 1 Tryz.underlying23 hi _ _ _ rfl hown rfl ?_))
 have hB2:=hb1
 have hown2:=hown
 have f2:=cell_step e2 hB2
 have hz2:=hB2.size
 rw [rounds_succ]
 go_wp2_with (at_builtin;go_loud (refine wpList_append_own _ rfl _ _ 23 rfl w.heap.size 9 i0 (.string { data:= #[]}) 1 16 Tryz.underlying23 hi hiz0 hiz1 hiz2 rfl (by decide) _ _ _ rfl hown2 a2 n2 c2 (strsV s2) rfl (by simp [HN2.out]) (fun j u h=>cell_step (H2.out j u h) hB2) (strs_one _) (by unfold maxLen;omega) (by omega) (by omega) ?_);intro v3 w3 hown3 hgr3 hnil3)
 have hB3:Below w.heap.size w w3:=hB2.grown hgr3 (by omega) (fun r e=>(hown2.lt r e).1)
 rw [rounds_succ]
 go_wp2
 go_ret
 exact ⟨v3,rfl,by simpa using hown3,hB3⟩
set_option maxHeartbeats 2000000 in
theorem concat_sn (a1:Addr) (c1:Nat) (s1:List ByteArray) (b:Nat) (w:World) (h1:∀j u,(strsV s1)[j]? =some u→w.cell? (a1.add j)=some u)
  (l1:s1.length≤1000) (e1:w.cell? ⟨b,0,none⟩=some (.slice (some a1) s1.length c1)) (e2:w.cell? ⟨b,1,none⟩=some (.slice none 0 0)):
  Calls Tryz.prog 106 #[.slice (some ⟨b,0,none⟩) 2 2] w fun e w'=>∃v,e= .returned v∧w'.ownsRow w.heap.size 9 1 v s1.length (strsV s1)∧Below w.heap.size w w':=by
 obtain ⟨i0,hi,hiz0,hiz1,hiz2⟩:=info_parts info_string
 have HG:=hid (fun w=>grow_any s1.length (by omega) w)
 have H1:=hid h1
 clear h1
 obtain ⟨n1,hn1⟩:∃n1,s1.length=n1:=⟨_,rfl⟩
 have HN1:=hid hn1
 rw [hn1] at HG l1 e1 ⊢
 clear hn1
 go_enter Tryz.func106,Tryz.ntmps106
 go_wp2
 refine wp_loop_rounds 3 ?_
 rw [rounds_succ]
 go_wp2
 rw [rounds_succ]
 go_wp2
 rw [rounds_succ]
 go_wp2_with (go_at_call 170;go_loud ((with_reducible refine (HG.out _).mono ?_);rintro e w1 ⟨v,rfl,hown,hb1⟩;have d1:=cell_step e1 hb1;have d2:=cell_step e2 hb1;have hz1:=hb1.size))
 refine wp_loop_rounds 3 ?_
 rw [rounds_succ]
 go_wp2_with (at_builtin;go_loud (refine wpList_append_own _ rfl _ _ 23 rfl w.heap.size 9 i0 (.string { data:= #[]}) 1 16 Tryz.underlying23 hi hiz0 hiz1 hiz2 rfl (by decide) _ _ _ rfl hown a1 n1 c1 (strsV s1) rfl (by simp [HN1.out]) (fun j u h=>cell_step (H1.out j u h) hb1) (strs_one _) (by unfold maxLen;omega) (by omega) (by omega) ?_);intro v2 w2 hown2 hgr2 hnil2)
 have hB2:Below w.heap.size w w2:=hb1.grown hgr2 (by omega) (fun r e=>(hown.lt r e).1)
 have f2:=cell_step e2 hB2
 have hz2:=hB2.size
 rw [rounds_succ]
 go_wp2_with (at_builtin;go_loud (refine wpList_append_own_none rfl _ _ 23 rfl w.heap.size 9 i0 1 Tryz.underlying23 hi _ _ _ rfl hown2 rfl ?_))
 rw [rounds_succ]
 go_wp2
 go_ret
 exact ⟨v2,rfl,by simpa using hown2,hB2⟩
set_option maxHeartbeats 2000000 in
theorem concat_nn (b:Nat) (w:World) (e1:w.cell? ⟨b,0,none⟩=some (.slice none 0 0)) (e2:w.cell? ⟨b,1,none⟩=some (.slice none 0 0)):
  Calls Tryz.prog 106 #[.slice (some ⟨b,0,none⟩) 2 2] w fun e w'=>∃v,e= .returned v∧w'.ownsRow w.heap.size 9 1 v 0 []∧Below w.heap.size w w':=by
 have HG:Hid (∀w,Calls Tryz.prog 170 #[.slice none 0 0,.int .i64 0] w fun e w'=>e= .returned (.slice none 0 0)∧w=w'):=fun w=>grow_zero w
 go_enter Tryz.func106,Tryz.ntmps106
 go_wp2
 refine wp_loop_rounds 3 ?_
 rw [rounds_succ]
 go_wp2
 rw [rounds_succ]
 go_wp2
 rw [rounds_succ]
 go_wp2_with (go_at_call 170;go_loud ((with_reducible refine (HG.out _).mono ?_);rintro e w1 ⟨rfl,rfl⟩))
 refine wp_loop_rounds 3 ?_
 rw [rounds_succ]
 go_wp2
 rw [rounds_succ]
 go_wp2
 rw [rounds_succ]
 go_wp2
 go_ret
 exact ⟨_,rfl,World.ownsRow_nil _ _ _ _,Gr⟩
theorem StrsSl.strs {w:World} {v:Value} {ss:List ByteArray} (h:StrsSl w v ss):StrsAt w v ss:=by
 obtain ⟨_,ao,cap,rfl,_,_,_,h⟩:=h
 refine ⟨ao,cap,rfl,fun hl=> ?_⟩
 obtain ⟨b,off,rfl,hc⟩:=h (by simpa using hl)
 refine ⟨b,off,rfl,fun j hj=>hc j _ ?_⟩
 rw [List.getElem?_map,List.getElem?_eq_getElem hj];rfl
def rightS (ds ms:List ByteArray) (g:Int):Bool:=decide (1≤ds.length∧ds.length≤6)&&(decide (ms.length≤4)&&(decide (1≤g∧g≤1000000000)&&namesB (ds++ms)))
def Texts (ss:List ByteArray):Prop:=ss.length≤1000∧∀s∈ss,s.size≤9223372036854775807
theorem Texts.app {a b:List ByteArray} (ha:Texts a) (hb:Texts b):(∀s∈a++b,s.size≤9223372036854775807)∧(a++b).length≤1000000:=by
 refine ⟨fun s hs=> ?_,by have:=ha.1;have:=hb.1;simp;omega⟩
 rcases List.mem_append.1 hs with h|h
 ·exact ha.2 s h
 ·exact hb.2 s h
theorem concat_any (vd vm:Value) (ds ms:List ByteArray) (b:Nat) (w:World) (hd:StrsSl w vd ds) (hm:StrsSl w vm ms) (l1:ds.length≤1000) (l2:ms.length≤1000) (e1:w.cell? ⟨b,0,none⟩=some vd) (e2:w.cell? ⟨b,1,none⟩=some vm):
  Calls Tryz.prog 106 #[.slice (some ⟨b,0,none⟩) 2 2] w fun e w'=>∃v,e= .returned v∧StrsSl w' v (ds++ms)∧Below w.heap.size w w':=by
 obtain ⟨ad,cd,rfl,_,_,nd⟩:=SlAt.shape hd
 obtain ⟨am,cm,rfl,_,_,nm⟩:=SlAt.shape hm
 cases ad with
 |none=>
  obtain rfl:=nd rfl
  have h0:ds.length=0:=by have:=(SlAt.parts hd).2.1;omega
  obtain rfl:=List.length_eq_zero_iff.1 h0
  cases am with
  |none=>
   obtain rfl:=nm rfl
   have h0:ms.length=0:=by have:=(SlAt.parts hm).2.1;omega
   obtain rfl:=List.length_eq_zero_iff.1 h0
   exact (concat_nn b w e1 e2).mono fun e w' ⟨v,h1,h2,h3⟩=>⟨v,h1,StrsSl.own h2,h3⟩
  |some a2=>
   obtain ⟨b2,o2,s2⟩:=a2
   exact (concat_ns _ cm ms b w (SlAt.src hm) l2 e1 e2).mono fun e w' ⟨v,h1,h2,h3⟩=>⟨v,h1,StrsSl.own (n:=ms.length) (by simpa using h2),h3⟩
 |some a1=>
  obtain ⟨b1,o1,s1⟩:=a1
  cases am with
  |none=>
   obtain rfl:=nm rfl
   have h0:ms.length=0:=by have:=(SlAt.parts hm).2.1;omega
   obtain rfl:=List.length_eq_zero_iff.1 h0
   exact (concat_sn _ cd ds b w (SlAt.src hd) l1 e1 e2).mono fun e w' ⟨v,h1,h2,h3⟩=>⟨v,h1,StrsSl.own (n:=ds.length) (by simpa using h2),h3⟩
  |some a2=>
   obtain ⟨b2,o2,s2⟩:=a2
   exact (concat_ss _ _ cd cm ds ms b w (SlAt.src hd) (SlAt.src hm) l1 l2 e1 e2).mono fun e w' ⟨v,h1,h2,h3⟩=>⟨v,h1,StrsSl.own (n:=ds.length+ms.length) (by simpa using h2),h3⟩
set_option maxHeartbeats 1000000 in
theorem right_any (vd vm:Value) (ds ms:List ByteArray) (g:Int) (w:World) (hd:StrsSl w vd ds) (hm:StrsSl w vm ms) (td:Texts ds) (tm:Texts ms):
  Calls Tryz.prog 55 #[.agg #[vd,vm,.int .i64 g]] w fun e w'=>e= .returned (.bool (rightS ds ms g))∧Below w.heap.size w w':=by
 obtain ⟨ta,tl⟩:=td.app tm
 obtain ⟨td,_⟩:=td
 obtain ⟨tm,_⟩:=tm
 have HD:=hid hd;have HM:=hid hm
 have HA:=hid (fun v W (h:StrsSl W v (ds++ms))=>areNames_any v (ds++ms) W h.strs tl ta)
 obtain ⟨ad,cd,rfl,_,_,_⟩:=SlAt.shape hd
 obtain ⟨am,cm,rfl,_,_,_⟩:=SlAt.shape hm
 have HC:=hid (fun b W (h1:StrsSl W (.slice ad ds.length cd) ds) (h2:StrsSl W (.slice am ms.length cm) ms)=>concat_any _ _ ds ms b W h1 h2 td tm)
 clear hd hm ta tl
 by_cases h1:1≤ds.length∧ds.length≤6
 ·have hw:decide ((1:Int)≤(ds.length:Int)∧(ds.length:Int)≤6)=true:=by simp;omega
  have HW:=hid (fun W=>within_any (ds.length:Int) 1 6 W)
  rw [hw] at HW
  clear hw
  by_cases h2:ms.length≤4
  ·by_cases h3:1≤g
   ·by_cases h4:g≤1000000000
    ·have hr:rightS ds ms g=namesB (ds++ms):=by simp [rightS,h1,h2,h3,h4]
     rw [hr]
     clear hr
     generalize namesB (ds++ms)=NB at HA ⊢
     generalize ds.length=nd at HC HW HD td ⊢
     generalize ms.length=nm at HC HM tm h2 ⊢
     go_enter Tryz.func55,Tryz.ntmps55
     go_wp2_with (first
      |(go_at_call 104;((with_reducible refine (HW.out _).mono ?_);rintro e w1 ⟨rfl,rfl⟩))
      |(go_at_call 106;go_loud ((with_reducible refine (HC.out _ _ (StrsSl.below HD.out Gr) (StrsSl.below HM.out Gr) (by go_simp) (by go_simp)).mono ?_);rintro e w2 ⟨v,rfl,hv,hb2⟩;have HV:=hid hv;clear hv))
      |(go_at_call 105;((with_reducible refine (HA.out _ _ HV.out).mono ?_);rintro e w3 ⟨rfl,hb3⟩)))
     go_ret
     exact ⟨rfl,Gr⟩
    ·have hr:rightS ds ms g=false:=by simp [rightS];omega
     rw [hr]
     clear hr
     go_enter Tryz.func55,Tryz.ntmps55
     go_wp2_with (go_at_call 104;((with_reducible refine (HW.out _).mono ?_);rintro e w1 ⟨rfl,rfl⟩))
     go_ret
     exact ⟨rfl,Gr⟩
   ·have hr:rightS ds ms g=false:=by simp [rightS];omega
    rw [hr]
    clear hr
    go_enter Tryz.func55,Tryz.ntmps55
    go_wp2_with (go_at_call 104;((with_reducible refine (HW.out _).mono ?_);rintro e w1 ⟨rfl,rfl⟩))
    go_ret
    exact ⟨rfl,Gr⟩
  ·have hr:rightS ds ms g=false:=by simp [rightS];omega
   rw [hr]
   clear hr
   go_enter Tryz.func55,Tryz.ntmps55
   go_wp2_with (go_at_call 104;((with_reducible refine (HW.out _).mono ?_);rintro e w1 ⟨rfl,rfl⟩))
   go_ret
   exact ⟨rfl,Gr⟩
 ·have hr:rightS ds ms g=false:=by simp [rightS];omega
  rw [hr]
  clear hr
  have hw:decide ((1:Int)≤(ds.length:Int)∧(ds.length:Int)≤6)=false:=by simp;omega
  have HW:=hid (fun W=>within_any (ds.length:Int) 1 6 W)
  rw [hw] at HW
  clear hw h1
  go_enter Tryz.func55,Tryz.ntmps55
  go_wp2_with (go_at_call 104;((with_reducible refine (HW.out _).mono ?_);rintro e w1 ⟨rfl,rfl⟩))
  go_ret
  exact ⟨rfl,Gr⟩
theorem run_append_sl {P:Program} (w:World) (base:Nat) (t ty e:TypeId) (i:TypeInfo) (z:Value) (size bytes:Nat) (ht:P.underlying t=some (.slice e)) (hi:P.info? e=some i) (hz:i.zero=some z)
  (hsize:i.size=size) (hby:i.bytes=bytes) (hzs:z.cells.size=size) (hsz:0<size) (v:Value) (n:Nat) (xs:List Value) (hown:w.ownsRow base e size v n xs)
  (xv:Value) (m:Nat) (news:List Value) (hr:SlAt w xv m size news) (h1:∀u∈news,u.oneCell'=true) (h63:n+m≤maxLen) (hbytes:(n+m)*bytes≤140737488355328) (hbase:base≤w.heap.size):
  ∃v' w',(Builtin.append_ #[t,t] ty #[v,xv]).run P w= .ok v' w'∧w'.ownsRow base e size v' (n+m) (xs++news)∧w.grownBy w' v.ownBlock∧(v'.ownBlock=v.ownBlock∨v'.ownBlock=some w.heap.size):=by
 obtain ⟨ao,cap,rfl,hl1,_,hn⟩:=SlAt.shape hr
 cases ao with
 |none=>
  obtain rfl:=hn rfl
  obtain rfl:m=0:=by omega
  have hnil:news=[]:=List.eq_nil_of_length_eq_zero (by simpa using hr.1)
  subst hnil
  exact ⟨v,w,run_append_owned_none (P:=P) (w:=w) base t ty e i size ht hi v n xs hown,by simpa using hown,World.grownBy.refl w _,.inl rfl⟩
 |some ad=>
  obtain ⟨b,off,s⟩:=ad
  obtain ⟨v',w',h2,h3,h4,_,h5⟩:=run_append_own_at (P:=P) w base t ty e i z size bytes ht hi hz hsize hby hzs hsz v n xs hown ⟨b,off,s⟩ m cap news hr.1 (SlAt.src hr) h1 h63 hbytes hbase
  exact ⟨v',w',h2,h3,h4,h5⟩
theorem wp_append_sl {P:Program} (w:World) {o:Oper} {a:Act} {K:Act→World→Prop} {Q:Exit→Act→World→Prop} (s x:Operand) (t:TypeId)
  (ho:o.op= .call { callee:= .builtin .append,args:= #[s,x],argTypes:= #[t,t]}) (base:Nat) (e:TypeId) (i:TypeInfo) (z:Value) (size bytes:Nat) (ht:P.underlying t=some (.slice e)) (hi:P.info? e=some i) (hz:i.zero=some z)
  (hsize:i.size=size) (hby:i.bytes=bytes) (hzs:z.cells.size=size) (hsz:0<size) (v:Value) (n:Nat) (xs:List Value) (hs:a.eval s=v) (hown:w.ownsRow base e size v n xs)
  (xv:Value) (m:Nat) (news:List Value) (hx:a.eval x=xv) (hr:SlAt w xv m size news) (h1:∀u∈news,u.oneCell'=true) (h63:n+m≤maxLen) (hbytes:(n+m)*bytes≤140737488355328) (hbase:base≤w.heap.size)
  (h:∀v' w',w'.ownsRow base e size v' (n+m) (xs++news)→w.grownBy w' v.ownBlock→(v'.ownBlock=v.ownBlock∨v'.ownBlock=some w.heap.size)→K (a.put o.dst v') w'):o.wp P a w K Q:=by
 obtain ⟨v',w',hrun,h2,h3,h4⟩:=run_append_sl (P:=P) w base t o.type e i z size bytes ht hi hz hsize hby hzs hsz v n xs hown xv m news hr h1 h63 hbytes hbase
 unfold Oper.wp execOp
 simp only [ho,resolve,invoke,builtin,Sem.run_bind,Sem.run_pure,Result.andThen_ok,List.map_toArray,List.map_cons,List.map_nil,hs,hx,hrun]
 exact h v' w' h2 h3 h4
theorem wpList_append_sl {P:Program} (w:World) {ops:Array Oper} {rest:List Oper} {o:Oper} {a:Act} {Q:Exit→Act→World→Prop} (hgd:o.guard=none) (s x:Operand) (t:TypeId)
  (ho:o.op= .call { callee:= .builtin .append,args:= #[s,x],argTypes:= #[t,t]}) (base:Nat) (e:TypeId) (i:TypeInfo) (z:Value) (size bytes:Nat) (ht:P.underlying t=some (.slice e)) (hi:P.info? e=some i) (hz:i.zero=some z)
  (hsize:i.size=size) (hby:i.bytes=bytes) (hzs:z.cells.size=size) (hsz:0<size) (v:Value) (n:Nat) (xs:List Value) (hs:a.eval s=v) (hown:w.ownsRow base e size v n xs)
  (xv:Value) (m:Nat) (news:List Value) (hx:a.eval x=xv) (hr:SlAt w xv m size news) (h1:∀u∈news,u.oneCell'=true) (h63:n+m≤maxLen) (hbytes:(n+m)*bytes≤140737488355328) (hbase:base≤w.heap.size)
  (h:∀v' w',w'.ownsRow base e size v' (n+m) (xs++news)→w.grownBy w' v.ownBlock→(v'.ownBlock=v.ownBlock∨v'.ownBlock=some w.heap.size)→wpList P ops Q rest (a.put o.dst v') w'):wpList P ops Q (o::rest) a w:=
 wpList_plain hgd fun _ hK=>wp_append_sl w s x t ho base e i z size bytes ht hi hz hsize hby hzs hsz v n xs hs hown xv m news hx hr h1 h63 hbytes hbase fun v' w' h2 h3 h4=>hK _ _ (h v' w' h2 h3 h4)
theorem step_append_sl {P:Program} (w:World) {ops:Array Oper} {o:Oper} {a:Act} {K:Act→World→Prop} {Q:Exit→Act→World→Prop} {E:Prop} (hgd:o.guard=none) (s x:Operand) (t:TypeId)
  (ho:o.op= .call { callee:= .builtin .append,args:= #[s,x],argTypes:= #[t,t]}) (base:Nat) (e:TypeId) (i:TypeInfo) (z:Value) (size bytes:Nat) (ht:P.underlying t=some (.slice e)) (hi:P.info? e=some i) (hz:i.zero=some z)
  (hsize:i.size=size) (hby:i.bytes=bytes) (hzs:z.cells.size=size) (hsz:0<size) (v:Value) (n:Nat) (xs:List Value) (hs:a.eval s=v) (hown:w.ownsRow base e size v n xs)
  (xv:Value) (m:Nat) (news:List Value) (hx:a.eval x=xv) (hr:SlAt w xv m size news) (h1:∀u∈news,u.oneCell'=true) (h63:n+m≤maxLen) (hbytes:(n+m)*bytes≤140737488355328) (hbase:base≤w.heap.size)
  (h:∀v' w',w'.ownsRow base e size v' (n+m) (xs++news)→w.grownBy w' v.ownBlock→(v'.ownBlock=v.ownBlock∨v'.ownBlock=some w.heap.size)→K (a.put o.dst v') w'):
  if Region.wanted o (yielded ops a.tmps)=true then Oper.wp P o a w K Q else E:=by
 have hw:Region.wanted o (yielded ops a.tmps)=true:=by simp [Region.wanted,hgd]
 rw [if_pos hw]
 exact wp_append_sl w s x t ho base e i z size bytes ht hi hz hsize hby hzs hsz v n xs hs hown xv m news hx hr h1 h63 hbytes hbase h
theorem SlAt.new (w:World) (cs:Array Value) (T:TypeId):SlAt (w.alloc (.cells cs T)) (.slice (some ⟨w.heap.size,0,none⟩) 1 1) 1 cs.size cs.toList:=by
 refine ⟨by simp,_,1,rfl,Nat.le_refl _,(by unfold maxLen;omega),(fun h=>by cases h),fun _=>⟨w.heap.size,0,rfl,fun j u hj=> ?_⟩⟩
 rw [World.cell?_alloc_at _ _ _ _ rfl]
 simpa using hj
theorem SlAt.alloc {w:World} {v:Value} {n size:Nat} {cs:List Value} (h:SlAt w v n size cs) (o:Obj):SlAt (w.alloc o) v n size cs:=h.below ((Below.refl _ _).alloc (Nat.le_refl _) o)
theorem SlAt.drew {w:World} {v:Value} {n size:Nat} {cs:List Value} (h:SlAt w v n size cs):SlAt w.drew v n size cs:=h.below (Below.drew (Below.refl _ _))
theorem own_far {w w':World} {base:Nat} {e:TypeId} {size:Nat} {v:Value} {n:Nat} {xs:List Value} (hown:w.ownsRow base e size v n xs) (hg:w.grownBy w' v.ownBlock) {b o:Nat} {u:Value} (hb:b<base) (h:w.cell? ⟨b,o,none⟩=some u):w'.cell? ⟨b,o,none⟩=some u:=by
 rw [hg.cell_far _ (World.block_lt_of_cell? _ _ h) (fun e=> ?_)]
 ·exact h
 ·have:=(hown.lt b e.symm).1
  omega
theorem own_blk {w w':World} {base:Nat} {e:TypeId} {size:Nat} {v:Value} {n:Nat} {xs:List Value} (hown:w.ownsRow base e size v n xs) (hg:w.grownBy w' v.ownBlock) {b:Nat} {o:Obj} (hb:b<base) (h:w.heap[b]? =some o):w'.heap[b]? =some o:=by
 rw [hg.block b (Array.getElem?_eq_some_iff.1 h).1 (fun e=> ?_)]
 ·exact h
 ·have:=(hown.lt b e.symm).1
  omega
theorem own_below {w w':World} {base:Nat} {e:TypeId} {size:Nat} {v:Value} {n:Nat} {xs:List Value} (hown:w.ownsRow base e size v n xs) (hg:w.grownBy w' v.ownBlock) {w0:World} (h0:Below w0.heap.size w0 w) (hb:w0.heap.size≤base):Below w0.heap.size w0 w':=
 h0.grown hg (by have:=h0.size;omega) (fun r e=>by have:=(hown.lt r e).1;omega)
theorem seen_or (l:List ByteArray) (t:ByteArray):(seenB l t=false∧∀i (hi:i<l.length),(t.toList==l[i].toList)=false)∨(seenB l t=true∧∃j,∃hj:j<l.length,(t.toList==l[j].toList)=true∧∀i (hi:i<j),(t.toList==(l[i]'(Nat.lt_trans hi hj)).toList)=false):=by
 have H:∀n,n≤l.length→(∀i (hi:i<l.length),i<n→(t.toList==l[i].toList)=false)∨(∃j,∃hj:j<l.length,(t.toList==l[j].toList)=true∧∀i (hi:i<j),(t.toList==(l[i]'(Nat.lt_trans hi hj)).toList)=false):=by
  intro n
  induction n with
  |zero=>intro _;exact .inl fun i hi h=>absurd h (Nat.not_lt_zero i)
  |succ n ih=>
   intro hn
   rcases ih (by omega) with h|h
   ·by_cases hg:(t.toList==(l[n]'(by omega)).toList)=true
    ·exact .inr ⟨n,by omega,hg,fun i hi=>h i (by omega) hi⟩
    ·refine .inl fun i hi hin=> ?_
     by_cases e:i=n
     ·subst e;simpa using hg
     ·exact h i hi (by omega)
   ·exact .inr h
 rcases H l.length (Nat.le_refl _) with h|h
 ·refine .inl ⟨?_,fun i hi=>h i hi hi⟩
  unfold seenB
  rw [List.any_eq_false]
  intro x hx
  obtain ⟨i,hi,rfl⟩:=List.getElem_of_mem hx
  have:=h i hi hi
  rw [ByteArray.toList_eq,ByteArray.toList_eq] at this
  simpa using fun e=>(by rw [e] at this;simp at this)
 ·refine .inr ⟨?_,h⟩
  obtain ⟨j,hj,he,_⟩:=h
  unfold seenB
  rw [List.any_eq_true]
  refine ⟨l[j],List.getElem_mem hj,?_⟩
  rw [ByteArray.toList_eq,ByteArray.toList_eq] at he
  rw [beq_iff_eq] at he ⊢
  exact he.symm
set_option maxHeartbeats 4000000 in
theorem refRight_mid (vd vm:Value) (ds ms:List ByteArray) (g:Int) (w:World) (hd:StrsSl w vd ds) (hm:StrsSl w vm ms) (td:Texts ds) (tm:Texts ms) (h1:1≤ds.length) (h2:ds.length≤6) (h3:ms.length≤4) (h4:1≤g) (h5:g≤1000000000):
  Calls Tryz.prog 69 #[.agg #[vd,vm,.int .i64 g]] w fun e w'=>e= .returned (.bool (namesB (ds++ms)))∧Below w.heap.size w w':=by
 obtain ⟨i0,hi,hiz0,hiz1,hiz2⟩:=info_parts info_string
 obtain ⟨ta,_⟩:=td.app tm
 obtain ⟨J,hJ,hpre,hat,hres⟩:∃J,J≤(ds++ms).length∧(∀i,i<J→okAt (ds++ms) i=true)∧(J<(ds++ms).length→okAt (ds++ms) J=false)∧namesB (ds++ms)=decide (J=(ds++ms).length):=by
  rcases names_first (ds++ms) with ⟨e1,e2⟩|⟨e1,j,hj,e2,e3⟩
  ·exact ⟨_,Nat.le_refl _,e2,fun h=>absurd h (Nat.lt_irrefl _),by rw [e1];simp⟩
  ·exact ⟨j,by omega,e3,fun _=>e2,by rw [e1];exact (decide_eq_false (by omega)).symm⟩
 rw [hres]
 clear hres
 have HTA:=hid ta;have HPRE:=hid hpre;have HAT:=hid hat
 obtain ⟨ss,hss⟩:∃ss,ds++ms=ss:=⟨_,rfl⟩
 have HSS:=hid hss
 rw [hss] at HPRE HAT HTA hJ ⊢
 obtain ⟨ad,cd,rfl,_,_,_⟩:=SlAt.shape hd
 obtain ⟨am,cm,rfl,_,_,_⟩:=SlAt.shape hm
 have hN:ss.length=ds.length+ms.length:=by rw [←hss];simp
 have HD:Hid (SlAt w (.slice ad ds.length cd) ds.length 1 (strsV ds)):=hid hd
 have HM:Hid (SlAt w (.slice am ms.length cm) ms.length 1 (strsV ms)):=hid hm
 clear hd hm ta hpre hat hss
 have hN10:ss.length≤10:=by omega
 obtain ⟨N,hNN⟩:∃N,ss.length=N:=⟨_,rfl⟩
 rw [hNN] at HAT hJ hN hN10 ⊢
 have HN:=hid hN;have HNN:=hid hNN
 clear hN hNN
 generalize ds.length=nd at*
 generalize ms.length=nm at*
 go_enter Tryz.func69,Tryz.ntmps69
 go_wp2
 go_region_held3 (fun w'=>w'.cell? ⟨w.heap.size,0,none⟩=some (.slice ad nd cd)∧w'.cell? ⟨w.heap.size,1,none⟩=some (.slice am nm cm)) (first|exact ⟨f0,f1⟩|exact ⟨e0,e1⟩|go_keep) ((first
  |(refine step_append_sl _ (by rfl) _ _ _ (by rfl) (w.heap.size+1) 9 i0 (.string { data:= #[]}) 1 16 Tryz.underlying23 hi hiz0 hiz1 hiz2 rfl (by decide) (.slice none 0 0) 0 [] (by rfl) (World.ownsRow_nil _ _ _ _) (.slice ad nd cd) nd (strsV ds) (by rfl) (SlAt.below HD.out Gr) (strs_one _) (by unfold maxLen;omega) (by omega) (by go_size) ?_;intro v1 w1 hown1 hgrow1 hb1;obtain ⟨e0,e1⟩:w1.cell? ⟨w.heap.size,0,none⟩=some (.slice ad nd cd)∧w1.cell? ⟨w.heap.size,1,none⟩=some (.slice am nm cm):=⟨own_far (World.ownsRow_nil _ (w.heap.size+1) 9 1) hgrow1 (by omega) (by go_simp),own_far (World.ownsRow_nil _ (w.heap.size+1) 9 1) hgrow1 (by omega) (by go_simp)⟩;have hB1:Below w.heap.size w w1:=own_below (World.ownsRow_nil _ (w.heap.size+1) 9 1) hgrow1 Gr (by omega))
  |(refine step_append_sl _ (by rfl) _ _ _ (by rfl) (w.heap.size+1) 9 i0 (.string { data:= #[]}) 1 16 Tryz.underlying23 hi hiz0 hiz1 hiz2 rfl (by decide) v1 (0+nd) ([]++strsV ds) (by rfl) hown1 (.slice am nm cm) nm (strsV ms) (by rfl) (SlAt.below HM.out Gr) (strs_one _) (by unfold maxLen;omega) (by omega) (Nat.succ_le_of_lt (World.block_lt_of_cell? _ _ e0)) ?_;intro v2 w2 hown2 hgrow2 hb2;obtain ⟨f0,f1⟩:w2.cell? ⟨w.heap.size,0,none⟩=some (.slice ad nd cd)∧w2.cell? ⟨w.heap.size,1,none⟩=some (.slice am nm cm):=⟨own_far hown1 hgrow2 (by omega) (by go_simp),own_far hown1 hgrow2 (by omega) (by go_simp)⟩;have hB2:Below w.heap.size w w2:=own_below hown1 hgrow2 Gr (by omega))))
 have hv2:StrsSl w2 v2 ss:=by
  rw [←HSS.out]
  refine StrsSl.own (base:=w.heap.size+1) (e:=9) (n:=0+nd+nm) ?_
  simpa [strsV] using hown2
 obtain ⟨a2,c2,rfl,hc2,hc3,_⟩:=SlAt.shape hv2
 have HV:=hid hv2
 clear hown1 hown2 hgrow1 hgrow2 hb1 hb2 hv2 hB1 e0 e1 f0 f1 HD HM
 rw [HNN.out] at hc2 ⊢
 go_wp2
 go_loopw [4] (fun i wr=>∃k:Nat,k≤J∧i= .int .i64 k∧Below w2.heap.size w2 wr) (fun i _=>N-(intOf i).toNat)
 case atStart=>exact ⟨0,Nat.zero_le _,rfl,Below.refl _ _⟩
 case round=>
  obtain ⟨k,hk,rfl,hbel⟩:=hrel
  by_cases hkN:k<N
  ·have hlen:k<ss.length:=by rw [HNN.out];exact hkN
   obtain ⟨b,off,rfl,hcell⟩:=(SlAt.parts HV.out).2.2.2.2 (by simp;omega)
   have HC:=hid (fun i (hi:i<ss.length)=>hcell i (.string ss[i]) (by rw [List.getElem?_map,List.getElem?_eq_getElem hi];rfl))
   clear hcell
   have hok:okAt ss k=(!seenB (ss.take k) ss[k]&&nameB ss[k]):=by unfold okAt strAt;rw [List.getElem?_eq_getElem hlen];rfl
   have hsz:=HTA.out ss[k] (List.getElem_mem hlen)
   have ck:=HC.out k hlen
   obtain ⟨s,hs⟩:∃s,ss[k]=s:=⟨_,rfl⟩
   have HN2:=hid (fun W=>refIsName_any ss[k] W hsz)
   rw [hs] at hok hsz ck HN2
   have HCK:=hid ck;have HOK:=hid hok;have HBEL:=hid hbel
   clear ck hok hs hbel
   obtain ⟨W0,hW0⟩:∃W0,wr=W0:=⟨_,rfl⟩
   rw [hW0] at HBEL ⊢
   clear hW0
   rcases seen_or (ss.take k) s with ⟨hsb,hno⟩|⟨hsb,j,hj,hyes,hno⟩
   ·have HNO:=hid (fun i (hi:i<k)=>(show (s.toList==(ss[i]'(Nat.lt_trans hi hlen)).toList)=false from by have:=hno i (by simp;omega);simpa using this))
    clear hno
    have HSB:=hid hsb
    clear hsb
    go_wp2
    go_loopw [5] (fun i wr=>∃m:Nat,m≤k∧i= .int .i64 m∧Below w2.heap.size w2 wr) (fun i _=>k-(intOf i).toNat)
    case atStart=>exact ⟨0,Nat.zero_le _,rfl,HBEL.out⟩
    case round=>
     obtain ⟨m,hm,rfl,hbel⟩:=hrel
     have c1:=cell_step HCK.out hbel
     have HB:=hid hbel
     by_cases hmk:m<k
     ·have c2:=cell_step (HC.out m (Nat.lt_trans hmk hlen)) hbel
      have heq:=HNO.out m hmk
      obtain ⟨t,ht⟩:∃t,ss[m]'(Nat.lt_trans hmk hlen)=t:=⟨_,rfl⟩
      rw [ht] at c2 heq
      clear ht hbel
      have g1:(0:Int)≤(m:Int):=Int.natCast_nonneg _
      have g2:(m:Int)<(N:Int):=by omega
      have g3:(0:Int)≤(k:Int):=Int.natCast_nonneg _
      have g4:(k:Int)<(N:Int):=by omega
      go_wp2
      go_quiet (fail)
      go_wp2
      go_roundw
      case rel=>exact ⟨m+1,hmk,by go_num,by have:=HB.out;exact Gr⟩
      case measure=>simp [intOf];omega
     ·obtain rfl:m=k:=by omega
      by_cases hkJ:m<J
      ·have hnm:nameB s=true:=by
        have h1:=HPRE.out m hkJ
        rw [HOK.out,HSB.out] at h1
        simpa using h1
       rw [hnm] at HN2
       clear hbel hnm
       go_wp2_with (go_at_call 130;((with_reducible refine (HN2.out _).mono ?_);rintro e w4 ⟨rfl,hb4⟩))
       go_roundw
       case rel=>exact ⟨m+1,hkJ,by go_num,by have:=HB.out;exact Gr⟩
       case measure=>simp [intOf];omega
      ·obtain rfl:m=J:=by omega
       have hnm:nameB s=false:=by
        have h1:=HAT.out hkN
        rw [HOK.out,HSB.out] at h1
        simpa using h1
       rw [hnm] at HN2
       clear hbel hnm
       have HD:Hid (decide (m=N)=false):=by unfold Hid;simp;omega
       go_wp2_with (go_at_call 130;((with_reducible refine (HN2.out _).mono ?_);rintro e w4 ⟨rfl,hb4⟩))
       go_ret
       have:=HB.out
       exact ⟨ret_bool (by rw [HD.out]),hB2.trans (Below.mono (B:=w2.heap.size) Gr hB2.size)⟩
   ·have hJk:k=J:=by
     by_cases h:k<J
     ·have h1:=HPRE.out k h
      rw [HOK.out,hsb] at h1
      simp at h1
     ·omega
    have hjk:j<k:=by simp at hj;omega
    have HNO:=hid (fun i (hi:i<j)=>(show (s.toList==(ss[i]'(Nat.lt_trans (Nat.lt_trans hi hjk) hlen)).toList)=false from by have:=hno i hi;simpa using this))
    have hyes2:(s.toList==(ss[j]'(Nat.lt_trans hjk hlen)).toList)=true:=by simpa using hyes
    clear hno hsb hyes
    have HY:=hid hyes2
    have HD:Hid (decide (J=N)=false):=by unfold Hid;simp;omega
    clear hyes2 hJk
    go_wp2
    go_loopw [5] (fun i wr=>∃m:Nat,m≤j∧i= .int .i64 m∧Below w2.heap.size w2 wr) (fun i _=>k-(intOf i).toNat)
    case atStart=>exact ⟨0,Nat.zero_le _,rfl,HBEL.out⟩
    case round=>
     obtain ⟨m,hm,rfl,hbel⟩:=hrel
     have c1:=cell_step HCK.out hbel
     have HB:=hid hbel
     have c2:=cell_step (HC.out m (by omega)) hbel
     have g1:(0:Int)≤(m:Int):=Int.natCast_nonneg _
     have g2:(m:Int)<(N:Int):=by omega
     have g3:(0:Int)≤(k:Int):=Int.natCast_nonneg _
     have g4:(k:Int)<(N:Int):=by omega
     have g5:m<k:=by omega
     by_cases hmk:m<j
     ·have heq:=HNO.out m hmk
      obtain ⟨t,ht⟩:∃t,ss[m]'(by omega)=t:=⟨_,rfl⟩
      rw [ht] at c2 heq
      clear ht hbel
      go_wp2
      go_quiet (fail)
      go_wp2
      go_roundw
      case rel=>exact ⟨m+1,hmk,by go_num,by have:=HB.out;exact Gr⟩
      case measure=>simp [intOf];omega
     ·obtain rfl:m=j:=by omega
      have heq:=HY.out
      obtain ⟨t,ht⟩:∃t,ss[m]'(by omega)=t:=⟨_,rfl⟩
      rw [ht] at c2 heq
      clear ht hbel
      go_wp2
      go_quiet (fail)
      go_wp2
      go_ret
      have:=HB.out
      exact ⟨ret_bool (by rw [HD.out]),hB2.trans (Below.mono (B:=w2.heap.size) Gr hB2.size)⟩
  ·obtain rfl:k=N:=by omega
   obtain rfl:k=J:=by omega
   go_wp2
   go_ret
   exact ⟨ret_bool (by simp),hB2.trans (hbel.mono hB2.size)⟩
set_option maxHeartbeats 1000000 in
theorem refRight_any (vd vm:Value) (ds ms:List ByteArray) (g:Int) (w:World) (hd:StrsSl w vd ds) (hm:StrsSl w vm ms) (td:Texts ds) (tm:Texts ms):
  Calls Tryz.prog 69 #[.agg #[vd,vm,.int .i64 g]] w fun e w'=>e= .returned (.bool (rightS ds ms g))∧Below w.heap.size w w':=by
 by_cases h1:1≤ds.length∧ds.length≤6∧ms.length≤4∧1≤g∧g≤1000000000
 ·obtain ⟨h1,h2,h3,h4,h5⟩:=h1
  have hr:rightS ds ms g=namesB (ds++ms):=by simp [rightS,h1,h2,h3,h4,h5]
  rw [hr]
  exact refRight_mid vd vm ds ms g w hd hm td tm h1 h2 h3 h4 h5
 ·have hr:rightS ds ms g=false:=by simp [rightS];omega
  rw [hr]
  have hcase:ds.length<1∨(1≤ds.length∧6<ds.length)∨((1≤ds.length∧ds.length≤6)∧4<ms.length)∨((1≤ds.length∧ds.length≤6)∧ms.length≤4∧g<1)∨((1≤ds.length∧ds.length≤6)∧ms.length≤4∧1≤g∧1000000000<g):=by omega
  obtain ⟨td,_⟩:=td
  obtain ⟨tm,_⟩:=tm
  obtain ⟨ad,cd,rfl,_,_,_⟩:=SlAt.shape hd
  obtain ⟨am,cm,rfl,_,_,_⟩:=SlAt.shape hm
  clear hd hm hr h1
  generalize ds.length=nd at*
  generalize ms.length=nm at*
  rcases hcase with h|⟨h1,h⟩|⟨⟨h1,h2⟩,h⟩|⟨⟨h1,h2⟩,h3,h⟩|⟨⟨h1,h2⟩,h3,h4,h⟩
  all_goals
   go_enter Tryz.func69,Tryz.ntmps69
   go_wp2
   go_ret
   exact ⟨rfl,Gr⟩
def okV (v:ValD):Bool:=isValB v.s v.nl
end Go.Proofs.YtejleplhmkmegaaGreatDoor
