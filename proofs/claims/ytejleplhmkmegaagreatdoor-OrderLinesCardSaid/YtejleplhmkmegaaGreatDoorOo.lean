/- Texts joined: Mixed2, OsH, OsI, OsJ, IsE, OsK, RolG, GrnG, OsL, OsM, OsC, OsD, OsE, OsN. -/
import Derived.Test.YtejleplhmkmegaaGreatDoorOf
import Derived.Test.YtejleplhmkmegaaGreatDoorOm
import Derived.Test.YtejleplhmkmegaaGreatDoorOn
import Derived.Test.YtejleplhmkmegaaGreatDoorOa
import Derived.Test.YtejleplhmkmegaaGreatDoorChecked
import Derived.LaidEql
import Derived.Stop.Asserts
import Derived.RowKitTokens
set_option linter.unusedVariables false
set_option linter.unusedSimpArgs false
namespace Go
section
variable {P:Program} {ops:Array Oper} {Q:Exit→Act→World→Prop} {md:Region.Mode} {S1 S2:World→Prop} {E1 E2:List Nat}
def keepsC (S1 S2:World→Prop) (E1 E2:List Nat) (i:Nat) (w w':World):Prop:=(E1.contains i=false→S1 w→S1 w')∧(E2.contains i=false→S2 w→S2 w')
def wpMu (P:Program) (md:Region.Mode) (ops:Array Oper) (Q:Exit→Act→World→Prop) (S1 S2:World→Prop) (E1 E2:List Nat):Nat→Array Bool→Act→World→Prop
 |0,listed,a,w=>Region.ready md ops listed=[]∧Q .normal a w
 |fuel+1,listed,a,w=>
  (Region.ready md ops listed=[]→Q .normal a w)∧
  ∀i∈Region.ready md ops listed,wpOp P ops Q i (fun a' w'=>keepsC S1 S2 E1 E2 i w w'∧wpMu P md ops Q S1 S2 E1 E2 fuel (listed.setIfInBounds i true) a' w') a w
theorem wpAny_of_mu:∀(fuel:Nat) (listed:Array Bool) (a:Act) (w:World),wpMu P md ops Q S1 S2 E1 E2 fuel listed a w→wpAny P md ops Q fuel listed a w
 |0,_,_,_,h=>h
 |fuel+1,_,_,_,h=>⟨h.1,fun i hi=>wpOp_mono (fun a' w' h'=>wpAny_of_mu fuel _ a' w' h'.2) (h.2 i hi)⟩
theorem wp_region_two {id:Nat} {l:List Oper} {a:Act} {w:World} (S1 S2:World→Prop) (E1 E2:List Nat) (hm:P.follows .mixedOrders=true)
  (h:wpMu P .any l.toArray Q S1 S2 E1 E2 l.length (Array.replicate l.length false) a w.drew):(Code.region id l.toArray true).wp P Q a w:=
 wp_region_any hm (wpAny_of_mu (S1:=S1) (S2:=S2) (E1:=E1) (E2:=E2) _ _ _ _ (by simpa using h))
theorem wpMu_first {i:Nat} {oi:Oper} {v:Value} {T:World→Prop} (hi:ops[i]? =some oi) (hsel:∀(j:Nat) (o:Oper) cs b,ops[j]? =some o→o.op≠ .select cs b)
  (hQ:∀c a w,Q (.panic c) (a.put oi.dst v) w→Q (.panic c) a w) (X:List Nat) (hX:∀j w w',X.contains j=false→keepsC S1 S2 E1 E2 j w w'→T w→T w'):
  ∀(fuel:Nat) (listed:Array Bool) (a:Act) (w:World),ClosedL md ops listed→(∀j,X.contains j=true→listed.getD j false=true∨∃f,needsB md ops f j i=true)→
   (∀j oj,ops[j]? =some oj→j≠i→listed.getD j true=false→(∀e∈oj.after,Region.binds md e=true→e.on≠i)→oi.apart ops oj=true)→
   i∈Region.ready md ops listed→YieldsIf P ops T oi v a→T w→
   wpMu P md ops Q S1 S2 E1 E2 fuel (listed.setIfInBounds i true) (a.put oi.dst v) w→wpMu P md ops Q S1 S2 E1 E2 (fuel+1) listed a w:=by
 intro fuel
 induction fuel with
 |zero=>
  intro listed a w _ _ _ hr hy hS H
  refine ⟨fun h=>(by rw [h] at hr;cases hr),fun j hj=> ?_⟩
  by_cases hji:j=i
  ·subst hji;exact hy.wpOp hi hS ⟨⟨fun _ h=>h,fun _ h=>h⟩,H⟩
  ·have:=ready_mono hj hji
   rw [H.1] at this
   cases this
 |succ fuel ih=>
  intro listed a w hcl hET hfree hr hy hS H
  refine ⟨fun h=>(by rw [h] at hr;cases hr),fun j hj=> ?_⟩
  by_cases hji:j=i
  ·subst hji;exact hy.wpOp hi hS ⟨⟨fun _ h=>h,fun _ h=>h⟩,H⟩
  ·have h1:=H.2 j (ready_mono hj hji)
   obtain ⟨hjun,oj,hoj,hall⟩:=mem_ready.1 hj
   have hun:listed.getD i false=false:=getD_both (mem_ready.1 hr).1
   have hnot:∀e∈oj.after,Region.binds md e=true→e.on≠i:=fun e he hb heq=>by
    have h1:=hall e he hb
    rw [heq,hun] at h1
    cases h1
   have h2:=wpOp_putIf hoj (hfree j oj hoj hji hjun hnot) (fun cs b=>hsel i oi cs b hi) (fun cs b=>hsel j oj cs b hoj) hQ hy h1
   have hfree':∀k ok,ops[k]? =some ok→k≠i→(listed.setIfInBounds j true).getD k true=false→
     (∀e∈ok.after,Region.binds md e=true→e.on≠i)→oi.apart ops ok=true:=fun k ok hk hki hun hno=>by
    refine hfree k ok hk hki ?_ hno
    by_cases hjk:j=k
    ·subst hjk;exact hjun
    ·rw [getD_set_ne true hjk] at hun;exact hun
   have hTw:∀w',keepsC S1 S2 E1 E2 j w w'→T w':=fun w' hw'=>by
    cases hXj:X.contains j with
    |false=>exact hX j w w' hXj hw' hS
    |true=>
     rcases hET j hXj with h|⟨f,h⟩
     ·rw [getD_both hjun] at h;cases h
     ·have h3:=needs_listed hcl f j h (fun ok hk e he hb=>by
       have:ok=oj:=Option.some.inj (hk.symm.trans hoj)
       subst this
       exact hall e he hb)
      rw [hun] at h3
      cases h3
   refine wpOp_mono (fun a' w' h3=>⟨h3.2.1,ih (listed.setIfInBounds j true) a' w' (hcl.set hj) (fun k hk=>(hET k hk).imp_left getD_set_true) hfree' (ready_mono hr (Ne.symm hji)) h3.1 (hTw w' h3.2.1) ?_⟩) h2
   rw [Array.setIfInBounds_comm _ _ hji]
   exact h3.2.2
theorem wpMu_takeX {X:List Nat} {T:World→Prop} {i:Nat} {oi:Oper} {v:Value} {fuel:Nat} {listed:Array Bool} {a:Act} {w:World} (hX:∀j w w',X.contains j=false→keepsC S1 S2 E1 E2 j w w'→T w→T w') (hi:ops[i]? =some oi)
  (hB:(Region.noSelect ops&&(closedB md ops listed&&(Region.free md ops listed i&&((Region.ready md ops listed).contains i&&X.all fun j=>listed.getD j false||needsB md ops ops.size j i))))=true)
  (hQ:∀c a w,Q (.panic c) (a.put oi.dst v) w→Q (.panic c) a w) (hy:YieldsIf P ops T oi v a) (hS:T w)
  (h:wpMu P md ops Q S1 S2 E1 E2 fuel (listed.setIfInBounds i true) (a.put oi.dst v) w):wpMu P md ops Q S1 S2 E1 E2 (fuel+1) listed a w:=by
 simp only [Bool.and_eq_true] at hB
 obtain ⟨hs,hc,hf,hr,hE⟩:=hB
 refine wpMu_first hi (Region.noSelect_spec hs) hQ X hX fuel listed a w (closedB_spec hc) (fun j hj=> ?_) (Region.free_spec hi hf) (by simpa using hr) hy hS h
 have:=List.all_eq_true.1 hE j (by simpa using hj)
 rw [Bool.or_eq_true] at this
 exact this.imp_right fun h=>⟨_,h⟩
theorem wpMu_take1 {i:Nat} {oi:Oper} {v:Value} {fuel:Nat} {listed:Array Bool} {a:Act} {w:World} (hi:ops[i]? =some oi)
  (hB:(Region.noSelect ops&&(closedB md ops listed&&(Region.free md ops listed i&&((Region.ready md ops listed).contains i&&E1.all fun j=>listed.getD j false||needsB md ops ops.size j i))))=true)
  (hQ:∀c a w,Q (.panic c) (a.put oi.dst v) w→Q (.panic c) a w) (hy:YieldsIf P ops S1 oi v a) (hS:S1 w)
  (h:wpMu P md ops Q S1 S2 E1 E2 fuel (listed.setIfInBounds i true) (a.put oi.dst v) w):wpMu P md ops Q S1 S2 E1 E2 (fuel+1) listed a w:=
 wpMu_takeX (X:=E1) (T:=S1) (fun _ _ _ hx hk hT=>hk.1 hx hT) hi hB hQ hy hS h
theorem wpMu_take2 {i:Nat} {oi:Oper} {v:Value} {fuel:Nat} {listed:Array Bool} {a:Act} {w:World} (hi:ops[i]? =some oi)
  (hB:(Region.noSelect ops&&(closedB md ops listed&&(Region.free md ops listed i&&((Region.ready md ops listed).contains i&&E2.all fun j=>listed.getD j false||needsB md ops ops.size j i))))=true)
  (hQ:∀c a w,Q (.panic c) (a.put oi.dst v) w→Q (.panic c) a w) (hy:YieldsIf P ops S2 oi v a) (hS:S2 w)
  (h:wpMu P md ops Q S1 S2 E1 E2 fuel (listed.setIfInBounds i true) (a.put oi.dst v) w):wpMu P md ops Q S1 S2 E1 E2 (fuel+1) listed a w:=
 wpMu_takeX (X:=E2) (T:=S2) (fun _ _ _ hx hk hT=>hk.2 hx hT) hi hB hQ hy hS h
theorem wpMu_free {i:Nat} {oi:Oper} {v:Value} {fuel:Nat} {listed:Array Bool} {a:Act} {w:World} (hi:ops[i]? =some oi)
  (hB:(Region.noSelect ops&&(closedB md ops listed&&(Region.free md ops listed i&&((Region.ready md ops listed).contains i&&([]:List Nat).all fun j=>listed.getD j false||needsB md ops ops.size j i))))=true)
  (hQ:∀c a w,Q (.panic c) (a.put oi.dst v) w→Q (.panic c) a w) (hy:YieldsIf P ops (fun _=>True) oi v a)
  (h:wpMu P md ops Q S1 S2 E1 E2 fuel (listed.setIfInBounds i true) (a.put oi.dst v) w):wpMu P md ops Q S1 S2 E1 E2 (fuel+1) listed a w:=
 wpMu_takeX (X:=[]) (T:=fun _=>True) (fun _ _ _ _ _ _=>trivial) hi hB hQ hy trivial h
def NextM (P:Program) (md:Region.Mode) (ops:Array Oper) (Q:Exit→Act→World→Prop) (S1 S2:World→Prop) (E1 E2:List Nat) (i:Nat) (w0:World) (fuel:Nat) (listed:Array Bool):Exit→Act→World→Prop
 | .normal,a,w=>keepsC S1 S2 E1 E2 i w0 w∧wpMu P md ops Q S1 S2 E1 E2 fuel listed a w
 |e,a,w=>Q e a w
theorem wpMu_pick {l:List Oper} {fuel:Nat} {listed:Array Bool} {a:Act} {w:World} (T:List Nat) (hB:((T.all fun t=>decide (t<l.length))&&(Region.ready md l.toArray listed==T))=true)
  (h:∀t∈T,wpList P l.toArray (NextM P md l.toArray Q S1 S2 E1 E2 t w fuel (listed.setIfInBounds t true)) (opsAt l [t]) a w) (hT:T≠[]):wpMu P md l.toArray Q S1 S2 E1 E2 (fuel+1) listed a w:=by
 simp only [Bool.and_eq_true,List.all_eq_true,decide_eq_true_eq,beq_iff_eq] at hB
 obtain ⟨ht,hr⟩:=hB
 refine ⟨fun h0=>absurd (hr.symm.trans h0) hT,fun i hi=> ?_⟩
 rw [hr] at hi
 refine wpOp_mono (fun a' w' h'=>h') (wpOp_of_list (Q:=Q) (Q':=NextM P md l.toArray Q S1 S2 E1 E2 i w fuel (listed.setIfInBounds i true)) (ht i hi) (fun e a w hne h=> ?_) (fun ⟨a,w,h⟩=>⟨a,w,h⟩) (h i hi))
 cases e<;>first|exact absurd rfl hne|exact h
theorem pick_one {P:Nat→Prop} {a:Nat} (h1:P a):∀t∈[a],P t:=by
 intro t ht
 simp only [List.mem_cons,List.not_mem_nil,or_false] at ht
 subst ht
 exact h1
theorem wpMu_of_any:∀(fuel:Nat) (listed:Array Bool) (a:Act) (w:World),(∀j,ops[j]? ≠none→listed.getD j true=false→E1.contains j=true∧E2.contains j=true)→wpAny P md ops Q fuel listed a w→wpMu P md ops Q S1 S2 E1 E2 fuel listed a w
 |0,_,_,_,_,h=>h
 |fuel+1,_,_,_,hE,h=>⟨h.1,fun i hi=>by
  have hri:=mem_ready.1 hi
  refine wpOp_mono (fun a' w' h'=>⟨?_,wpMu_of_any fuel _ a' w' (fun j hj hl=>hE j hj ?_) h'⟩) (h.2 i hi)
  ·obtain ⟨hl,oi,hoi,_⟩:=hri
   have:=hE i (by rw [hoi];simp) hl
   exact ⟨fun he=>absurd (this.1.symm.trans he) (by decide),fun he=>absurd (this.2.symm.trans he) (by decide)⟩
  ·by_cases hij:i=j
   ·subst hij
    exact hri.1
   ·rwa [getD_set_ne true hij] at hl⟩
theorem wpMu_rest {l:List Oper} {fuel:Nat} {listed:Array Bool} {a:Act} {w:World} (T:List Nat) (hB:(restB md l T listed&&((T.length==fuel)&&(List.range l.length).all fun j=>listed.getD j true||(E1.contains j&&E2.contains j)))=true)
  (h:wpList P l.toArray Q (opsAt l T) a w):wpMu P md l.toArray Q S1 S2 E1 E2 fuel listed a w:=by
 simp only [Bool.and_eq_true,beq_iff_eq] at hB
 obtain ⟨h1,h2,h3⟩:=hB
 subst h2
 refine wpMu_of_any _ _ _ _ (fun j hj hl=> ?_) (wpAny_rest T listed a w h1 h)
 have hlt:j<l.length:=by
  rcases Nat.lt_or_ge j l.length with h|h
  ·exact h
  ·exact absurd (by simp [h]) hj
 have:=List.all_eq_true.1 h3 j (List.mem_range.2 hlt)
 rw [hl,Bool.false_or,Bool.and_eq_true] at this
 exact this
end
end Go
namespace Go.Proofs.YtejleplhmkmegaaGreatDoor
set_option linter.unusedVariables false
set_option linter.unusedSimpArgs false
set_option maxRecDepth 100000
open Go.ChangeShapes Go.WideShapes Go.ChangeAt Go.RowKit Go.Fl Go.ChangeMaps Go.MapKept
open Go.Maps (Keyed)
def longB (s:ByteArray):Bool:=decide (100<s.size)
theorem long_any (s:ByteArray) (w:World) (hs:s.size≤9223372036854775807):Calls Tryz.prog 223 #[.string s] w fun e w'=>e= .returned (.bool (longB s))∧w'=w:=by
 unfold longB
 by_cases h:100<s.size
 ·have h':(100:Int)<(s.size:Int):=by omega
  go_enter Tryz.func223,Tryz.ntmps223
  go_wp2
  go_ret
  exact ⟨ret_bool (by simp [h]),rfl⟩
 ·have h':¬(100:Int)<(s.size:Int):=by omega
  go_enter Tryz.func223,Tryz.ntmps223
  go_wp2
  go_ret
  exact ⟨ret_bool (by simp [h]),rfl⟩
set_option maxHeartbeats 1000000 in
theorem long_idx (v:Value) (l:List ByteArray) (p:ByteArray→Bool) (w:World) (hv:StrsSl w v l) (hl:l.length≤1000000) (HF:∀(x:ByteArray) (W:World),x∈l→Below w.heap.size w W→Calls Tryz.prog 223 #[.string x] W fun e w'=>e= .returned (.bool (p x))∧Below W.heap.size W w') (j:Nat) (hj:j≤l.length) (hpre:∀i (hi:i<j),p (l[i]'(by omega))=false) (hat:∀hj:j<l.length,p l[j]=true):
  Calls Tryz.prog 215 #[v,.func (.func 223) #[] #[]] w fun e w'=>e= .returned (.int .i64 (if j<l.length then (j:Int) else -1))∧Below w.heap.size w w':=by
 obtain ⟨ao,cap,rfl,h1,h2,h3,hA⟩:=str_parts hv
 have HA:=hid hA;have HP:=hid hpre;have HT:=hid hat;have HFF:=hid HF
 obtain ⟨L,hL⟩:∃L,l.length=L:=⟨_,rfl⟩
 have HL:=hid hL
 rw [hL] at hj hl h1 ⊢
 clear hpre hat hL hv HF hA
 unfold maxLen at h2
 go_enter Tryz.func215,Tryz.ntmps215
 go_wp2
 go_loopw [8] (fun i wr=>∃k:Nat,k≤j∧i= .int .i64 k∧Below w.heap.size w wr) (fun i _=>L-(intOf i).toNat)
 case atStart=>exact ⟨0,Nat.zero_le _,rfl,Below.refl _ _⟩
 case round=>
  obtain ⟨k,hk,rfl,hbel⟩:=hrel
  by_cases hkL:k<L
  ·have hlen:k<l.length:=by rw [HL.out];exact hkL
   have h00:0<l.length:=by omega
   obtain ⟨b,off,rfl,hA⟩:=HA.out h00
   have c0:=hA k hlen
   replace c0:=cell_step c0 hbel
   have HI:=hid (HFF.out l[k] wr (List.getElem_mem hlen) hbel)
   have hok:p l[k]= !decide (k<j):=by
    by_cases h:k<j
    ·rw [HP.out k h];simp [h]
    ·obtain rfl:k=j:=by omega
     rw [HT.out];simp
   rw [hok] at HI
   have HB:=hid hbel
   clear hA hok hbel h00
   generalize l[k]=f0 at*
   by_cases hkj:k<j
   ·have hd:(!decide (k<j))=false:=by simp [hkj]
    rw [hd] at HI
    clear hd
    go_wp2_with (go_at_call 223;((with_reducible refine HI.out.mono ?_);rintro e w2 ⟨rfl,hb2⟩))
    go_roundw
    case rel=>exact ⟨k+1,hkj,by go_num,by have:=HB.out;exact Gr⟩
    case measure=>simp [intOf];omega
   ·have hd:(!decide (k<j))=true:=by simp [hkj]
    rw [hd] at HI
    clear hd
    obtain rfl:k=j:=by omega
    have HE:Hid ((if k<L then (k:Int) else -1)=(k:Int)):=if_pos hkL
    go_wp2_with (go_at_call 223;((with_reducible refine HI.out.mono ?_);rintro e w2 ⟨rfl,hb2⟩))
    go_ret
    exact ⟨rfl,by have:=HB.out;exact Gr⟩
  ·have HE:Hid ((if j<L then (j:Int) else -1)= -1):=if_neg (by omega)
   have HB:=hid hbel
   clear hbel
   go_wp2
   go_ret
   exact ⟨rfl,by have:=HB.out;exact Gr⟩
theorem long_cont (v:Value) (l:List ByteArray) (p:ByteArray→Bool) (w:World) (hv:StrsSl w v l) (hl:l.length≤1000000) (HF:∀(x:ByteArray) (W:World),x∈l→Below w.heap.size w W→Calls Tryz.prog 223 #[.string x] W fun e w'=>e= .returned (.bool (p x))∧Below W.heap.size W w'):
  Calls Tryz.prog 174 #[v,.func (.func 223) #[] #[]] w fun e w'=>e= .returned (.bool (l.any p))∧Below w.heap.size w w':=by
 have H:∃r:Int,(l.any p)=decide (0≤r)∧Calls Tryz.prog 215 #[v,.func (.func 223) #[] #[]] w fun e w'=>e= .returned (.int .i64 r)∧Below w.heap.size w w':=by
  rcases firstO p l with ⟨h1,h2⟩|⟨h1,j,h2,h3,h4⟩
  ·refine ⟨-1,by rw [h1];rfl,?_⟩
   refine (long_idx v l p w hv hl HF l.length (Nat.le_refl _) (fun i hi=>h2 i hi) (fun h=>absurd h (Nat.lt_irrefl _))).mono fun e w' ⟨he,hw⟩=>⟨?_,hw⟩
   rw [he,if_neg (Nat.lt_irrefl _)]
  ·refine ⟨j,by rw [h1];simp,?_⟩
   refine (long_idx v l p w hv hl HF j (by omega) h4 (fun _=>h3)).mono fun e w' ⟨he,hw⟩=>⟨?_,hw⟩
   rw [he,if_pos h2]
 obtain ⟨r,hr,hc⟩:=H
 rw [hr]
 have HC:=hid hc
 clear hr hc HF
 obtain ⟨ao,cap,rfl,_⟩:=str_parts hv
 clear hv
 go_enter Tryz.func174,Tryz.ntmps174
 go_wp2_with (go_at_call 215;((with_reducible refine (HC.out).mono ?_);rintro e w2 ⟨rfl,hb2⟩))
 go_ret
 exact ⟨rfl,Gr⟩
def two2B (n:Nat) (a b:Int):Bool:=decide (a≤(n:Int))&&decide ((n:Int)≤b)
theorem fwithin_any (n:Nat) (a b:Int) (w:World):Calls Tryz.prog 224 #[.int .i64 (n:Nat),.agg #[.int .i64 a,.int .i64 b]] w fun e w'=>e= .returned (.bool (two2B n a b))∧Below w.heap.size w w':=by
 unfold two2B
 by_cases h1:a≤(n:Int)
 ·by_cases h2:(n:Int)≤b
  ·go_enter Tryz.func224,Tryz.ntmps224
   go_wp2
   go_ret
   exact ⟨ret_bool (by simp [h1,h2]),Gr⟩
  ·go_enter Tryz.func224,Tryz.ntmps224
   go_wp2
   go_ret
   exact ⟨ret_bool (by first|(simp [h1,h2];done)|(simp;omega)),Gr⟩
 ·go_enter Tryz.func224,Tryz.ntmps224
  go_wp2
  go_ret
  exact ⟨ret_bool (by first|(simp [h1];done)|(simp;omega)),Gr⟩
theorem ownsMap_below {P:Program} {k:TypeId} {R:Value→Option (DataW Value×List MemPlace)} {w w':World} {b n:Nat} {D:DataW Value} (h:w.ownsMap P k R b n D) (hb:Below w.heap.size w w'):w'.ownsMap P k R b n D:=by
 have hlt:=h.lt
 obtain ⟨es,clock,hbk,F,hs,hD⟩:=h
 exact ⟨es,clock,(hb.block b hlt).trans hbk,F,hs,hD⟩
def FormD.zero:FormD:=⟨false,false,0,0,0,0⟩
def formD (k:Int):FormD:=(formOf k).getD FormD.zero
def FormD.cells (f:FormD):Array Value:= #[.bool f.hn,.bool f.hs,.int .i64 f.w0,.int .i64 f.w1,.int .i64 f.f0,.int .i64 f.f1]
theorem form_look {W:World} {b:Nat} {k:Int} (hk:I64 k) (h:W.ownsMap Tryz.prog 3 heldR b 9 formsD):
  (Instr.lookup 254 (.map (some b)) (.int .i64 k) true).run Tryz.prog W= .ok (.tuple #[.agg (formD k).cells,.bool (formOf k).isSome]) W:=by
 have hkey:keyOf Tryz.prog 3 (.int .i64 k)=some (litI k):=Maps.keyOf_int_mk Tryz.underlying3 (by unfold I64 at hk;simp [Lit.wf,IntKind.min,IntKind.max,IntKind.signed,IntKind.bits];omega)
 have hz:(zeroValue 252).run Tryz.prog W= .ok (.agg FormD.zero.cells) W:=by first|rfl|kernel_rfl|(go_simp;done)
 obtain ⟨v,ok,hrun,hc⟩:=held_look h (Maps.int_keyed Tryz.underlying3) Tryz.underlying254 hz hkey
 have key:∀zd,formsD.atKey (litI k) zd=match formOf k with|some f=> .held f.val|none=>zd:=fun zd=>forms_at k zd
 unfold formD
 cases hf:formOf k with
 |none=>
  rw [hf] at key
  rcases hc with ⟨rfl,hv⟩|⟨rfl,rfl,_⟩
  ·have:=(hv .nil).symm.trans (key .nil)
   cases this
  ·exact hrun
 |some f=>
  rw [hf] at key
  rcases hc with ⟨rfl,hv⟩|⟨rfl,rfl,hv⟩
  ·have:=(hv .nil).symm.trans (key .nil)
   cases this
   exact hrun
  ·have:=(hv .nil).symm.trans (key .nil)
   cases this
open Go.Maps (Keyed)
def FrmAt (X:World) (k:Int) (wx:World) (s5 s6:Value):Prop:=∃A,s5= .pointer (some ⟨A,0,none⟩)∧s6= .bool (formOf k).isSome∧X.heap.size≤A∧wx.heap[A]? =some (.cells (formD k).cells 252 (0,0))∧Below X.heap.size X wx
theorem cell_new2 {W:World} {a:Addr} {v:Value} (h:W.cell? a=some v) (o:Obj):(W.alloc o).cell? a=some v:=cell_step h (Below.new (Below.refl _ _) o)
theorem six_form {W:World} {b:Nat} {f:FormD} (h:W.heap[b]? =some (.cells f.cells 252 (0,0))):W.cell? ⟨b,0,none⟩=some (.bool f.hn)∧W.cell? ⟨b,1,none⟩=some (.bool f.hs)∧W.cell? ⟨b,2,none⟩=some (.int .i64 f.w0)∧W.cell? ⟨b,3,none⟩=some (.int .i64 f.w1)∧W.cell? ⟨b,4,none⟩=some (.int .i64 f.f0)∧W.cell? ⟨b,5,none⟩=some (.int .i64 f.f1):=
 ⟨cell_blk h rfl,cell_blk h rfl,cell_blk h rfl,cell_blk h rfl,cell_blk h rfl,cell_blk h rfl⟩
def filRightB (ds ms:List ByteArray) (g:Int):FilD→Bool
 | .mk k n ws fr till l=>(formOf k).isSome&&((placeB (rightS ds ms g) (Lib.idxOfS ds n)==(formD k).hn)&&((placeB (rightS ds ms g) (Lib.idxOfS ds n)||n.toList==[])&&(((formD k).hs||(fr==0&&till==0))&&(two2B ws.length (formD k).w0 (formD k).w1&&(two2B l.length (formD k).f0 (formD k).f1&& !ws.any longB)))))
def BoolPost (r:Bool) (w:World) (e:Ending) (w':World):Prop:=e= .returned (.bool r)∧Below w.heap.size w w'
set_option maxHeartbeats 8000000 in
theorem fisRight_any (S:Nat→Prop) (D:Nat) (f:FilD) (cs:List Value) (vd vm:Value) (ds ms:List ByteArray) (g:Int) (w:World) (hd:StrsSl w vd ds) (hm:StrsSl w vm ms) (td:Texts ds) (tm:Texts ms) (hf:FilS S w D cs f) (hk:KindsN 1 f) (hws:f.words.length≤1000000):
  Calls Tryz.prog 183 #[.agg #[vd,vm,.int .i64 g],.agg cs.toArray] w (BoolPost (filRightB ds ms g f) w):=by
 cases D with
 |zero=>simp [FilS] at hf
 |succ D=>
 obtain ⟨k,n,ws,fr,till,l⟩:=f
 unfold FilS at hf
 obtain ⟨vw,vl,rows,rfl,hn,hw,hwz,x1,x2,hl,x3⟩:=hf
 have hk64:I64 k:=hk.1
 have HD:=hid (fun W (h:Below w.heap.size w W)=>dim_any vd vm ds ms g n W (hd.below h) (hm.below h) td tm)
 have HW:=hid (fun W (h:Below w.heap.size w W)=>long_cont vw ws longB W (SlAt.below hw.sl h) hws (fun x W2 hx h2=>(long_any x W2 (hwz x hx)).mono fun e w' ⟨a,b⟩=>⟨a,b▸Below.refl _ _⟩))
 obtain ⟨aw,cw,rfl,hw1,_⟩:=SlAt.shape hw.sl
 obtain ⟨al,cl,rfl,hl1,_⟩:=SlAt.shape hl.sl
 obtain ⟨ad,cd,rfl,_,_,_⟩:=SlAt.shape hd
 obtain ⟨am,cm,rfl,_,_,_⟩:=SlAt.shape hm
 have LK:=hid (fun (b:Nat) (W:World) (h:W.ownsMap Tryz.prog 3 heldR b 9 formsD)=>form_look hk64 h)
 have H1:=hid (fun W=>fwithin_any ws.length (formD k).w0 (formD k).w1 W)
 have H2:=hid (fun W=>fwithin_any l.length (formD k).f0 (formD k).f1 W)
 unfold filRightB
 dsimp only
 generalize placeI (rightS ds ms g) (Lib.idxOfS ds n)=pi at*
 generalize placeB (rightS ds ms g) (Lib.idxOfS ds n)=pb at*
 generalize ws.any longB=r3 at*
 generalize two2B ws.length (formD k).w0 (formD k).w1=r1 at*
 generalize two2B l.length (formD k).f0 (formD k).f1=r2 at*
 have hwl:ws.length≤1000000:=hws
 clear hd hm td tm hw hl hwz hk hws hk64 x1 x2 x3
 generalize ws.length=nw at*;generalize l.length=nl at*
 generalize ds.length=nd at*;generalize ms.length=nm at*
 obtain ⟨R,hR⟩:∃R,((formOf k).isSome&&((pb==(formD k).hn)&&((pb||n.toList==[])&&(((formD k).hs||(fr==0&&till==0))&&(r1&&(r2&& !r3))))))=R:=⟨_,rfl⟩
 rw [hR]
 have HR:=hid hR
 clear hR
 go_enter Tryz.func183,Tryz.ntmps183
 go_wp2_with fail
 go_upto_region 1 with fail
 obtain ⟨X,hX⟩:∃X,(w.alloc (.cells #[.slice ad nd cd,.slice am nm cm,.int .i64 g] 45)).alloc (.cells #[.int .i64 k,.string n,.slice aw nw cw,.int .i64 fr,.int .i64 till,.slice al nl cl] 29)=X:=⟨_,rfl⟩
 have hB:Below w.heap.size w X:=by rw [←hX];exact Gr
 have hz:X.heap.size=w.heap.size+1+1:=by rw [←hX];simp only [World.size_alloc]
 have s0:X.cell? ⟨w.heap.size,0,none⟩=some (.slice ad nd cd):=by subst hX;go_simp
 have s1:X.cell? ⟨w.heap.size,1,none⟩=some (.slice am nm cm):=by subst hX;go_simp
 have s2:X.cell? ⟨w.heap.size,2,none⟩=some (.int .i64 g):=by subst hX;go_simp
 have f0:X.cell? ⟨w.heap.size+1,0,none⟩=some (.int .i64 k):=by subst hX;go_simp
 have f1:X.cell? ⟨w.heap.size+1,1,none⟩=some (.string n):=by subst hX;go_simp
 have f2:X.cell? ⟨w.heap.size+1,2,none⟩=some (.slice aw nw cw):=by subst hX;go_simp
 have f3:X.cell? ⟨w.heap.size+1,3,none⟩=some (.int .i64 fr):=by subst hX;go_simp
 have f4:X.cell? ⟨w.heap.size+1,4,none⟩=some (.int .i64 till):=by subst hX;go_simp
 have f5:X.cell? ⟨w.heap.size+1,5,none⟩=some (.slice al nl cl):=by subst hX;go_simp
 rw [hX]
 have HX:=hid (⟨hB,hz⟩:_∧_)
 clear hX hB hz
 go_cut [5,6] (fun s5 s6 wx=>FrmAt X k wx s5 s6)
 case first=>
  have hS1:(fun w':World=>w'.cell? ⟨w.heap.size+1,0,none⟩=some (.int .i64 k)) X.drew:=f0
  refine wp_region_two (fun w':World=>w'.cell? ⟨w.heap.size+1,0,none⟩=some (.int .i64 k)) (fun w':World=>w'.ownsMap Tryz.prog 3 heldR (X.heap.size+1) 9 formsD) [8,9] [8,9] (by kernel_rfl) ?_
  (refine wpMu_take1 (i:=1) (v:= ?_) rfl (by kernel_rfl) (fun _ _ _ h=>h) (Or.inl ⟨by rfl,?_⟩) hS1 ?_;rotate_left 1;(focus (intro w hSw;(try dsimp only at hSw);go_simp;try (with_reducible rfl)));(try simp only [Act.put,List.setIfInBounds_toArray,List.set_cons_zero,List.set_cons_succ]))
  (refine wpMu_take1 (i:=2) (v:= ?_) rfl (by kernel_rfl) (fun _ _ _ h=>h) (Or.inl ⟨by rfl,?_⟩) hS1 ?_;rotate_left 1;(focus (intro w hSw;(try dsimp only at hSw);go_simp;try (with_reducible rfl)));(try simp only [Act.put,List.setIfInBounds_toArray,List.set_cons_zero,List.set_cons_succ]))
  refine wpMu_pick [0,7] (by kernel_rfl) (pick_two ?_ ?_) (by simp)
  all_goals simp only [opsAt,Ol]
  ·go_wp2_with (go_at_call 222;go_loud ((with_reducible refine (forms_any _).mono ?_);rintro e w4 ⟨rfl,ho,hb4⟩))
   refine ⟨⟨fun _ h=>cell_step h hb4,fun _ h=>ownsMap_below h hb4⟩,?_⟩
   have hS2:(fun w':World=>w'.ownsMap Tryz.prog 3 heldR (X.heap.size+1) 9 formsD) w4:=ho
   have HL:=hid (LK.out (X.heap.size+1))
   have HB4:Hid (Below X.heap.size X w4):=(Below.drew (Below.refl _ _)).trans hb4
   have hl:=HL.out
   (refine wpMu_take2 (i:=3) (v:= ?_) rfl (by kernel_rfl) (fun _ _ _ h=>h) (Or.inl ⟨by rfl,?_⟩) hS2 ?_;rotate_left 1;(focus (intro w hSw;(try dsimp only at hSw);go_simp;try (with_reducible rfl)));(try simp only [Act.put,List.setIfInBounds_toArray,List.set_cons_zero,List.set_cons_succ]))
   clear hl
   (refine wpMu_free (i:=4) (v:= ?_) rfl (by kernel_rfl) (fun _ _ _ h=>h) (Or.inl ⟨by rfl,?_⟩) ?_;rotate_left 1;(focus (intro w hSw;(try dsimp only at hSw);go_simp;try (with_reducible rfl)));(try simp only [Act.put,List.setIfInBounds_toArray,List.set_cons_zero,List.set_cons_succ]))
   (refine wpMu_free (i:=5) (v:= ?_) rfl (by kernel_rfl) (fun _ _ _ h=>h) (Or.inl ⟨by rfl,?_⟩) ?_;rotate_left 1;(focus (intro w hSw;(try dsimp only at hSw);go_simp;try (with_reducible rfl)));(try simp only [Act.put,List.setIfInBounds_toArray,List.set_cons_zero,List.set_cons_succ]))
   (refine wpMu_free (i:=6) (v:= ?_) rfl (by kernel_rfl) (fun _ _ _ h=>h) (Or.inl ⟨by rfl,?_⟩) ?_;rotate_left 1;(focus (intro w hSw;(try dsimp only at hSw);go_simp;try (with_reducible rfl)));(try simp only [Act.put,List.setIfInBounds_toArray,List.set_cons_zero,List.set_cons_succ]))
   refine wpMu_pick [7] (by kernel_rfl) (pick_one ?_) (by simp)
   simp only [opsAt,Ol]
   go_wp2
   refine ⟨⟨fun _ h=>cell_new2 h _,fun _ h=>h.alloc _⟩,?_⟩
   have hbk:(w4.alloc (.cells FormD.zero.cells 252)).heap[w4.heap.size]? =some (.cells FormD.zero.cells 252 (0,0)):=heap_at rfl
   have HBK:Hid (Below X.heap.size X (w4.alloc (.cells FormD.zero.cells 252))):=HB4.out.new _
   refine wpMu_rest [8,9] (by kernel_rfl) ?_
   simp only [opsAt,Ol]
   go_wp2_with (refine wpList_store_blk rfl _ _ _ rfl _ _ rfl rfl _ _ hbk (by kernel_rfl) rfl (by simp [FormD.cells,Value.oneCell']) ?_;intro x3 hh3 hg3 hz3)
   go_meet
   exact ⟨w4.heap.size,rfl,rfl,HB4.out.size,hh3,HBK.out.grown hg3 (HBK.out.size) (fun r e=>by have:=Option.some.inj e;have:=HB4.out.size;omega)⟩
  ·go_wp2
   refine ⟨⟨fun _ h=>cell_new2 h _,fun _ h=>h.alloc _⟩,?_⟩
   refine wpMu_pick [0] (by kernel_rfl) (pick_one ?_) (by simp)
   simp only [opsAt,Ol]
   go_wp2_with (go_at_call 222;go_loud ((with_reducible refine (forms_any _).mono ?_);rintro e w4 ⟨rfl,ho,hb4⟩))
   refine ⟨⟨fun _ h=>cell_step h hb4,fun _ h=>ownsMap_below h hb4⟩,?_⟩
   have e:∀o,(X.alloc o).drew.heap.size+1=X.heap.size+1+1:=fun o=>by simp
   rw [e] at ho
   clear e
   have hr:=LK.out _ w4 ho
   have hbk:w4.heap[X.heap.size]? =some (.cells #[.bool false,.bool false,.int .i64 0,.int .i64 0,.int .i64 0,.int .i64 0] 252 (0,0)):=by refine blk_below ?_ hb4;exact heap_at (w:=X) rfl
   have HB4:Hid (Below X.heap.size X w4):=(((Below.refl _ _).new _).drew).trans (hb4.mono (by simp))
   refine wpMu_pick [3] (by kernel_rfl) (pick_one ?_) (by simp)
   simp only [opsAt,Ol]
   go_wp2
   refine ⟨⟨fun _ h=>h,fun _ h=>h⟩,?_⟩
   (refine wpMu_free (i:=4) (v:= ?_) rfl (by kernel_rfl) (fun _ _ _ h=>h) (Or.inl ⟨by rfl,?_⟩) ?_;rotate_left 1;(focus (intro w hSw;(try dsimp only at hSw);go_simp;try (with_reducible rfl)));(try simp only [Act.put,List.setIfInBounds_toArray,List.set_cons_zero,List.set_cons_succ]))
   (refine wpMu_free (i:=5) (v:= ?_) rfl (by kernel_rfl) (fun _ _ _ h=>h) (Or.inl ⟨by rfl,?_⟩) ?_;rotate_left 1;(focus (intro w hSw;(try dsimp only at hSw);go_simp;try (with_reducible rfl)));(try simp only [Act.put,List.setIfInBounds_toArray,List.set_cons_zero,List.set_cons_succ]))
   (refine wpMu_free (i:=6) (v:= ?_) rfl (by kernel_rfl) (fun _ _ _ h=>h) (Or.inl ⟨by rfl,?_⟩) ?_;rotate_left 1;(focus (intro w hSw;(try dsimp only at hSw);go_simp;try (with_reducible rfl)));(try simp only [Act.put,List.setIfInBounds_toArray,List.set_cons_zero,List.set_cons_succ]))
   refine wpMu_rest [8,9] (by kernel_rfl) ?_
   simp only [opsAt,Ol]
   go_wp2_with (refine wpList_store_blk rfl _ _ _ rfl _ _ rfl rfl _ _ hbk (by kernel_rfl) rfl (by simp [FormD.cells,Value.oneCell']) ?_;intro x3 hh3 hg3 hz3)
   go_meet
   exact ⟨X.heap.size,rfl,rfl,Nat.le_refl _,hh3,HB4.out.grown hg3 (HB4.out.size) (fun r e=>by have:=Option.some.inj e;omega)⟩
 case rest=>
  obtain ⟨A,rfl,rfl,hA,hbk,hbx⟩:=hcut
  obtain ⟨W2,rfl⟩:∃W,W=wc:=⟨_,rfl⟩
  have HBW:=hid (HX.out.1.step hbx)
  obtain ⟨a0,a1,a2,a3,a4,a5⟩:=six_form hbk
  replace s0:=cell_step s0 hbx;replace s1:=cell_step s1 hbx;replace s2:=cell_step s2 hbx
  replace f0:=cell_step f0 hbx;replace f1:=cell_step f1 hbx;replace f2:=cell_step f2 hbx;replace f3:=cell_step f3 hbx;replace f4:=cell_step f4 hbx;replace f5:=cell_step f5 hbx
  have l1:A<W2.heap.size:=lt_of_block hbk
  have l2:w.heap.size<W2.heap.size:=World.block_lt_of_cell? _ _ s0
  have l3:w.heap.size+1<W2.heap.size:=World.block_lt_of_cell? _ _ f0
  clear hbk hbx HX LK hA
  generalize formD k=fd at*
  obtain ⟨xn,xs,x0,x1,x2,x3⟩:=fd
  dsimp only at*
  generalize (formOf k).isSome=ok at*
  have hcn:n.toList=[]∨(n.toList==[])=false:=by
   by_cases h:n.toList=[]
   ·exact .inl h
   ·exact .inr (by simpa using h)
  have hcs:(fr=0∧till=0)∨((fr==0)=true∧(till==0)=false)∨((fr==0)=false):=by
   by_cases h:fr=0
   ·by_cases h2:till=0
    ·exact .inl ⟨h,h2⟩
    ·exact .inr (.inl ⟨by simpa using h,by simpa using h2⟩)
   ·exact .inr (.inr (by simpa using h))
  go_wp2_with (first
   |(go_at_call 114;go_loud ((with_reducible refine (HD.out _ HBW.out).mono ?_);rintro e w5 ⟨rfl,hb5⟩;obtain ⟨hc5,hf5,hk5,hz5⟩:=bcell3 hb5;have:A<w5.heap.size:=(by omega);have:w.heap.size<w5.heap.size:=(by omega);have:w.heap.size+1<w5.heap.size:=(by omega)))
   |(go_at_call 224;go_loud (first|((with_reducible refine (H1.out _).mono ?_);rintro e w6 ⟨rfl,hb6⟩;obtain ⟨hc6,hf6,hk6,hz6⟩:=bcell3 hb6;have:A<w6.heap.size:=(by omega);have:w.heap.size<w6.heap.size:=(by omega);have:w.heap.size+1<w6.heap.size:=(by omega))|((with_reducible refine (H2.out _).mono ?_);rintro e w7 ⟨rfl,hb7⟩;obtain ⟨hc7,hf7,hk7,hz7⟩:=bcell3 hb7;have:A<w7.heap.size:=(by omega);have:w.heap.size<w7.heap.size:=(by omega);have:w.heap.size+1<w7.heap.size:=(by omega))))
   |(go_at_call 174;go_loud ((with_reducible refine (HW.out _ (HBW.out.step Gr)).mono ?_);rintro e w8 ⟨rfl,hb8⟩)))
  all_goals
   go_ret
   exact ⟨ret_bool (by have hR:=HR.out;rw [←hR];clear HR hR HW HD H1 H2 HBW;simp_all),HBW.out.step Gr⟩
open Go.Joins Go.Deep
attribute [local go_sem] Oper.semAt_some
def Both {α β:Type} (R:α→β→Prop):List α→List β→Prop
 |[],[]=>True
 |a::l,b::m=>R a b∧Both R l m
 |_,_=>False
section
variable {α β:Type} {R:α→β→Prop}
theorem Both.append:∀{l l':List α} {m m':List β},Both R l m→Both R l' m'→Both R (l++l') (m++m')
 |[],_,[],_,_,h=>h
 |_::_,_,_::_,_,h,k=>⟨h.1,h.2.append k⟩
 |[],_,_::_,_,h,_=>h.elim
 |_::_,_,[],_,h,_=>h.elim
theorem Both.length:∀{l:List α} {m:List β},Both R l m→l.length=m.length
 |[],[],_=>rfl
 |_::_,_::_,h=>by simp [h.2.length]
 |[],_::_,h=>h.elim
 |_::_,[],h=>h.elim
theorem Both.get:∀{l:List α} {m:List β},Both R l m→∀(k:Nat) (b:β),m[k]? =some b→∃a,l[k]? =some a∧R a b
 |a::l,b::m,h,0,c,hc=>⟨a,rfl,by simp at hc;exact hc▸h.1⟩
 |a::l,b::m,h,k+1,c,hc=>by simpa using h.2.get k c (by simpa using hc)
 |[],[],_,_,_,hc=>by simp at hc
 |[],_::_,h,_,_,_=>h.elim
 |_::_,[],h,_,_,_=>h.elim
theorem Both.flat:∀{C:List (List α)} {M:List (List β)},C.length=M.length→(∀j (h1:j<C.length) (h2:j<M.length),Both R C[j] M[j])→Both R C.flatten M.flatten
 |[],[],_,_=>trivial
 |c::C,m::M,h,k=>by
  rw [List.flatten_cons,List.flatten_cons]
  exact (k 0 (by simp) (by simp)).append (Both.flat (by simpa using h) (fun j h1 h2=>k (j+1) (by simp;omega) (by simp;omega)))
 |[],_::_,h,_=>by simp at h
 |_::_,[],h,_=>by simp at h
end
theorem flat_split {α:Type} (C:List (List α)) {j:Nat} (hj:j<C.length):C.flatten=(C.take j).flatten++(C[j]++(C.drop (j+1)).flatten):=by
 conv=>lhs;rw [←List.take_append_drop j C]
 rw [List.flatten_append,List.drop_eq_getElem_cons hj,List.flatten_cons]
theorem flat_here {α:Type} (a:α) (C:List (List α)) {j:Nat} (hj:j<C.length) {k:Nat} (hk:k<C[j].length):(a::C.flatten)[1+(C.take j).flatten.length+k]? =C[j][k]? :=by
 rw [show 1+(C.take j).flatten.length+k=((C.take j).flatten.length+k)+1 by omega,List.getElem?_cons_succ,flat_split C hj,List.getElem?_append_right (by omega),List.getElem?_append_left (by omega)]
 congr 1
 omega
theorem flat_next {α:Type} (C:List (List α)) {j:Nat} (hj:j<C.length):(C.take (j+1)).flatten.length=(C.take j).flatten.length+C[j].length:=by
 rw [List.take_succ_eq_append_getElem hj,List.flatten_append,List.length_append]
 simp
def flatN:Nat→Nat→FilD→List (Nat×FilD)
 |0,_,_=>[]
 |d+1,deep,.mk k n ws fr till l=>(deep,.mk k n ws fr till l)::(l.map (flatN d (deep+1))).flatten
def NodeIs (S:Nat→Prop) (w0:World) (a:Array Value) (p:Nat×FilD):Prop:=∃D cs,a= #[.int .i64 (p.1:Int),.agg (List.toArray cs)]∧FilS S w0 D cs p.2
def WalkOk (w0:World) (lo hi deep:Nat) (cs:List Value) (NL:List (Array Value)):Prop:=
 ∀(n l B:Nat) (J Jx:Nat→World→Prop) (W:World),LowEq w0 W→w0.heap.size≤B→hi≤B→B≤W.heap.size→(∀k,Stab B (J k))→(∀k,Stab B (Jx k))→
  (∀k a,NL[k]? =some a→∀W1,B≤W1.heap.size→J k W1→YieldAt Fence.wide n Tryz.prog l a W1 fun e W'=>
   (e= .returned (.bool true)∧J (k+1) W'∧ProtN w0.heap.size lo hi B W1 W')∨(e= .returned (.bool false)∧Jx k W'∧ProtN w0.heap.size lo hi B W1 W'))→
  J 0 W→
  Calls Tryz.prog 221 #[.agg cs.toArray,.int .i64 (deep:Int),.func (.yield l) #[] #[]] W fun e W'=>ProtN w0.heap.size lo hi B W W'∧((e= .returned (.bool true)∧J NL.length W')∨(e= .returned (.bool false)∧∃k,k<NL.length∧Jx k W'))
def WalkEx (S:Nat→Prop) (w0:World) (lo hi d deep:Nat) (cs:List Value) (f:FilD):Prop:=∃NL,Both (NodeIs S w0) NL (flatN d deep f)∧WalkOk w0 lo hi deep cs NL
theorem protN_below {n₀ lo hi B:Nat} {X Y:World} (hb:Below X.heap.size X Y) (h1:n₀≤X.heap.size) (h2:hi≤X.heap.size):ProtN n₀ lo hi B X Y:=
 ⟨hb.size,fun k h=>hb.block k (by omega),fun k _ h=>hb.block k (by omega),fun k _ h=>hb.block k h⟩
theorem lowEq_prot {w0 W W':World} {lo hi B:Nat} (h:LowEq w0 W) (hp:ProtN w0.heap.size lo hi B W W'):LowEq w0 W':=fun k hk=>(hp.low k hk).trans (h k hk)
set_option maxHeartbeats 4000000 in
theorem walk_step (S:Nat→Prop) (w0:World) (lo hi d:Nat) (ih:∀deep cs f,FilS S w0 d cs f→deep+d≤1000→WalkEx S w0 lo hi d deep cs f) (deep:Nat) (cs:List Value) (f:FilD) (hf:FilS S w0 (d+1) cs f) (hd:deep+(d+1)≤1000):
  WalkEx S w0 lo hi (d+1) deep cs f:=by
 have hf0:=hf
 obtain ⟨k,nm,ws,fr,till,l⟩:=f
 unfold FilS at hf
 obtain ⟨vw,vl,rows,hcs,hn,hw,hwz,hrl,hr6,hl,hch⟩:=hf
 have hex:∀j,j<l.length→∃N:List (Array Value),∀(h:j<l.length) r,rows[j]? =some r→Both (NodeIs S w0) N (flatN d (deep+1) l[j])∧WalkOk w0 lo hi (deep+1) r N:=fun j hj=>by
  obtain ⟨N,h1,h2⟩:=ih (deep+1) (rows[j]'(by omega)) l[j] (hch j hj _ (List.getElem?_eq_getElem (by omega))) (by omega)
  exact ⟨N,fun h r hr=>by rw [List.getElem?_eq_getElem (by omega)] at hr;cases hr;exact ⟨h1,h2⟩⟩
 obtain ⟨F,hF⟩:=choose_lt hex
 obtain ⟨C,hC⟩:∃C,(List.range l.length).map F=C:=⟨_,rfl⟩
 have hCl:C.length=l.length:=by rw [←hC];simp
 have hCj:∀j (hj:j<l.length),C[j]'(by omega)=F j:=fun j hj=>by subst hC;simp
 refine ⟨#[.int .i64 (deep:Int),.agg cs.toArray]::C.flatten,?_,?_⟩
 ·show Both _ _ ((deep,FilD.mk k nm ws fr till l)::(l.map (flatN d (deep+1))).flatten)
  refine ⟨⟨d+1,cs,rfl,hf0⟩,Both.flat (by simp [hCl]) (fun j h1 h2=> ?_)⟩
  have hj:j<l.length:=by omega
  rw [hCj j hj,List.getElem_map]
  exact (hF j hj hj _ (List.getElem?_eq_getElem (by omega))).1
 ·obtain ⟨Rw,hRw⟩:∃Rw:Nat→List Value,∀j,j<l.length→rows[j]? =some (Rw j):=⟨fun j=>rows.getD j [],fun j hj=>by dsimp only;rw [List.getD_eq_getElem?_getD,List.getElem?_eq_getElem (by omega)];rfl⟩
  have HCH:=hid (fun j (hj:j<l.length)=>(hF j hj hj _ (hRw j hj)).2)
  have HRO:=hid (fun j (hj:j<l.length)=>(hch j hj _ (hRw j hj)).six)
  obtain ⟨NL,hNL⟩:∃NL,(#[Value.int .i64 (deep:Int),.agg cs.toArray]::C.flatten)=NL:=⟨_,rfl⟩
  have HHEAD:Hid (NL[0]? =some #[.int .i64 (deep:Int),.agg cs.toArray]):=by subst hNL;rfl
  obtain ⟨off,o0,oS,oL,oAt⟩:∃off:Nat→Nat,off 0=0∧(∀j,j<l.length→off (j+1)=off j+(F j).length)∧NL.length=1+off l.length∧∀j,j<l.length→∀k,k<(F j).length→NL[1+off j+k]? =(F j)[k]? :=by
   refine ⟨fun j=>(C.take j).flatten.length,by simp,fun j hj=> ?_,?_,fun j hj k hk=> ?_⟩
   ·rw [←hCj j hj]
    exact flat_next C (j:=j) (by omega)
   ·dsimp only
    rw [←hNL,←hCl,List.take_length,List.length_cons]
    omega
   ·rw [←hNL,←hCj j hj]
    exact flat_here _ C (j:=j) (by omega) (by rw [hCj j hj];exact hk)
  have HMO:Hid (∀k j,j+k=l.length→off j≤off l.length):=by
   intro k
   induction k with
   |zero=>intro j hj;rw [show j=l.length by omega];exact Nat.le_refl _
   |succ k ihk=>intro j hj;have h1:=ihk (j+1) (by omega);have h2:=oS j (by omega);omega
  have HO0:=hid o0;have HOS:=hid oS;have HOL:=hid oL;have HOA:=hid oAt
  obtain ⟨aw,cw,rfl,hw1,_⟩:=SlAt.shape hw.sl
  have HLC:Hid (∀j,j<l.length→∃b o,vl= .slice (some ⟨b,o,none⟩) l.length (match vl with| .slice _ _ c=>c|_=>0)∧b<w0.heap.size∧∀i x,(Rw j)[i]? =some x→w0.cell? ⟨b,o+j*6+i,none⟩=some x):=fun j hj=>by
   obtain ⟨hl0,ao,cap,rfl,_,_,_,hlc⟩:=hl
   have h6:(Rw j).length=6:=hr6 _ (List.mem_of_getElem? (hRw j hj))
   obtain ⟨b,o,rfl,_,hc⟩:=hlc (by rw [hl0];omega)
   have key:∀i x,(Rw j)[i]? =some x→w0.cell? ⟨b,o+j*6+i,none⟩=some x:=fun i x hx=>by
    have hi6:i<6:=by rw [←h6];exact (List.getElem?_eq_some_iff.1 hx).1
    rw [Nat.add_assoc]
    exact hc _ _ (by rw [flatten_at hr6 (hRw j hj) hi6];exact hx)
   exact ⟨b,o,rfl,World.block_lt_of_cell? _ _ (key 0 _ (List.getElem?_eq_getElem (by omega))),key⟩
  obtain ⟨al,cl,rfl,hl1,hl2,_⟩:=SlAt.shape hl.sl
  dsimp only at HLC
  rw [hNL]
  clear o0 oS oL oAt hNL hF hC hCj hCl hch hl hw hwz hrl hr6 hf0 ih hn hex hRw
  subst hcs
  generalize ws.length=nw at*
  generalize l.length=L at*
  clear hw1
  unfold maxLen at hl2
  intro n l' B J Jx W hLW hB hhi hBW hJ hJx hY hJ0
  have hdI:(deep:Int)+1≤2000:=by omega
  have hd0:(0:Int)≤(deep:Int):=by omega
  refine (callsIn_wide (n:=n+1)).1 (callsIn_of_wp Tryz.func221 rfl trivial ?_ rfl)
  simp only [Tryz.ntmps221,List.size_toArray,List.length_cons,List.length_nil,Nat.reduceAdd,Nat.reduceSub,Array.replicate_succ,Array.replicate_zero,List.push_toArray,List.append_toArray,List.nil_append,List.cons_append]
  obtain ⟨X,hX⟩:∃X,W.alloc (.cells #[.int .i64 k,.string nm,.slice aw nw cw,.int .i64 fr,.int .i64 till,.slice al L cl] 29)=X:=⟨_,rfl⟩
  have hbX:Below W.heap.size W X:=by rw [←hX];exact Gr
  have hzX:X.heap.size=W.heap.size+1:=by rw [←hX];simp
  have hpX:ProtN w0.heap.size lo hi B W X:=protN_below hbX (by omega) (by omega)
  have hJX:J 0 X:=by rw [←hX];exact (hJ 0).alloc _ hJ0
  have f5:X.cell? ⟨W.heap.size,5,none⟩=some (.slice al L cl):=by subst hX;go_simp
  obtain ⟨fn,tmps,assign,body,hy,hR⟩:=hY 0 _ HHEAD.out X (by omega) hJX
  (try dsimp only at hy)
  have HY:=hid hY;have HJ:=hid hJ;have HJX:=hid hJx;have HLW:=hid hLW
  have HPX:=hid hpX
  clear hY hLW hJ0 hbX hpX hzX
  subst hX
  clear hJ hJx
  gi_wp2
  refine hR.mono ?_
  rintro e W3 (⟨rfl,hJ3,hP3⟩|⟨rfl,hJx3,hP3⟩)
  ·have f5':W3.cell? ⟨W.heap.size,5,none⟩=some (.slice al L cl):=(World.cell?_of_block (w:=_) (hP3.high _ hBW (World.block_lt_of_cell? _ _ f5))).trans f5
   have HP3:=hid (HPX.out.trans hP3);have HJ3:=hid hJ3
   clear hP3 hJ3 f5 hR hy
   gi_wp2
   gi_loopw [8,17] (fun _ iv wr=>∃j:Nat,j≤L∧iv= .int .i64 (j:Int)∧J (1+off j) wr∧ProtN w0.heap.size lo hi B W wr) (fun _ iv _=>L-(intOf iv).toNat)
   case atStart=>exact ⟨0,Nat.zero_le _,rfl,by rw [HO0.out];exact HJ3.out,HP3.out⟩
   case round=>
    obtain ⟨j,hj,rfl,hJj,hPj⟩:=hrel
    have hwz:=hPj.size
    clear f5' HP3 HJ3
    by_cases hlt:j<L
    ·have hltI:(j:Int)<(L:Int):=by omega
     have hj0:(0:Int)≤(j:Int):=by omega
     obtain ⟨b,o,e,hblt,hc⟩:=HLC.out j hlt
     simp only [Value.slice.injEq,and_true] at e
     obtain ⟨k2,n2,aw2,lw2,cw2,fr2,till2,al2,ll2,cl2,hRj⟩:=HRO.out j hlt
     rw [hRj] at hc
     have hlow:LowEq w0 wr:=lowEq_prot HLW.out hPj
     have c0:=hlow.cell (hc 0 _ rfl);have c1:=hlow.cell (hc 1 _ rfl);have c2:=hlow.cell (hc 2 _ rfl);have c3:=hlow.cell (hc 3 _ rfl);have c4:=hlow.cell (hc 4 _ rfl);have c5:=hlow.cell (hc 5 _ rfl)
     rw [Nat.add_zero] at c0
     have HW:=hid (fun Y (hb:Below wr.heap.size wr Y)=>(HCH.out j hlt) n l' B (fun k=>J (1+off j+k)) (fun k=>Jx (1+off j+k)) Y (fun i hi=>(hb.block i (by omega)).trans (hlow i hi)) hB hhi (by have:=hb.size;omega) (fun k=>HJ.out _) (fun k=>HJX.out _) (fun k a ha W1 hW1 hJ1=>HY.out (1+off j+k) a ((HOA.out j hlt k (List.getElem?_eq_some_iff.1 ha).1).trans ha) W1 hW1 hJ1) (stab_step (HJ.out _) hJj hb))
     rw [hRj,show ((deep+1:Nat):Int)=(deep:Int)+1 by omega] at HW
     have HPj:=hid hPj;have HOj:=hid (HOS.out j hlt)
     subst e
     clear hc hlow hJj hPj hRj
     have hwr:W.heap.size≤wr.heap.size:=hwz
     gi_wp2
     refine ⟨trivial,((callsIn_wide (n:=_)).2 (HW.out _ Gr)).mono ?_⟩
     rintro e W5 ⟨hp5,⟨rfl,hJ5⟩|⟨rfl,k5,hk5,hJ5⟩⟩
     ·gi_wp2
      go_roundw
      case rel=>exact ⟨j+1,hlt,by go_num,by rw [HOj.out,←Nat.add_assoc];exact hJ5,HPj.out.trans ((protN_below Gr (by omega) (by omega)).trans hp5)⟩
      case measure=>simp [intOf];omega
     ·have hmo:=HMO.out (L-(j+1)) (j+1) (by omega)
      have hoj:=HOj.out
      have hol:=HOL.out
      have hlt2:1+off j+k5<NL.length:=by omega
      clear hmo hoj hol
      gi_wp2
      go_ret
      exact ⟨HPj.out.trans ((protN_below Gr (by omega) (by omega)).trans hp5),.inr ⟨rfl,_,hlt2,hJ5⟩⟩
    ·obtain rfl:j=L:=by omega
     have HP:=hid hPj
     have HJ2:Hid (J NL.length wr):=by unfold Hid;rw [HOL.out];exact hJj
     clear hPj hJj
     gi_wp2
     go_ret
     exact ⟨HP.out,.inl ⟨rfl,HJ2.out⟩⟩
  ·gi_wp2
   go_ret
   exact ⟨HPX.out.trans hP3,.inr ⟨rfl,0,by have:=HOL.out;omega,hJx3⟩⟩
open Go.Extern.Stop Go.Stop Go.Extern
abbrev errV (a:Addr):Value:= .iface 288 (.pointer (some a))
def cmpRow : Array Value → Sem Value := Extern.ReflectliteType.method fun t => do Go.Extern.Rtype.noPackHeld "Comparable" t; pure (.bool (← typeInfo t).comparable)
theorem isTypeOf (v:Value) (w:World):(Extern.ReflectliteType.typeOf #[.iface 288 v]).run Tryz.prog w= .ok (.iface 265 (.agg #[.pointer (some ⟨8,288,none⟩)])) w:=by kernel_rfl
theorem isComparable (w:World):(cmpRow #[.agg #[.pointer (some ⟨8,288,none⟩)]]).run Tryz.prog w= .ok (.bool true) w:=by kernel_rfl
theorem isMethodComparable (v : Value) (w : World) : (Go.method Tryz.prog.types.size 265 v "Comparable").run Tryz.prog w = .ok (267, v) w := by kernel_rfl
theorem isComp:(Tryz.prog.info? 288).map (·.comparable)=some true:=by kernel_rfl
theorem isSize:(Tryz.prog.info? 307).map (·.size)=some 1:=by kernel_rfl
theorem typesN:Tryz.prog.types.size=319:=by kernel_rfl
theorem noIsE (v:Value) (xT:TypeId) (w:World):(Instr.typeAssert (.iface 288 v) xT 281 true).run Tryz.prog w= .ok (.tuple #[.nilIface,.bool false]) w:=run_typeAssert_lacksB Tryz.underlying281 (by kernel_rfl) (by kernel_rfl) v xT w
theorem noUnwrapE (v:Value) (xT:TypeId) (w:World):(Instr.typeAssert (.iface 288 v) xT 272 true).run Tryz.prog w= .ok (.tuple #[.nilIface,.bool false]) w:=run_typeAssert_lacksB Tryz.underlying272 (by kernel_rfl) (by kernel_rfl) v xT w
theorem noUnwrapsE (v:Value) (xT:TypeId) (w:World):(Instr.typeAssert (.iface 288 v) xT 274 true).run Tryz.prog w= .ok (.tuple #[.nilIface,.bool false]) w:=run_typeAssert_lacksB Tryz.underlying274 (by kernel_rfl) (by kernel_rfl) v xT w
theorem is_same (a:Addr) (w:World):
  Calls Tryz.prog 181 #[errV a,errV a] w fun e w'=>e= .returned (.bool true)∧w=w':=by
 obtain ⟨i,hi,hcmp⟩:=Option.map_eq_some_iff.1 isComp
 obtain ⟨j,hj,hjs⟩:=Option.map_eq_some_iff.1 isSize
 have h8:= @run_callFunc_extern Tryz.prog 218 _ Extern.ReflectliteType.typeOf Tryz.func218 (by kernel_rfl) (by kernel_rfl) (by kernel_rfl) (by kernel_rfl)
 have h32:= @run_callFunc_extern Tryz.prog 267 _ cmpRow Tryz.func267 (by kernel_rfl) (by kernel_rfl) (by kernel_rfl) (by kernel_rfl)
 have tT:=isTypeOf
 have cT:=isComparable
 have mR:=isMethodComparable
 rw [typesN] at mR
 have heq:=run_eql_iface_ptr_same (P:=Tryz.prog) w a Tryz.underlying118 Tryz.underlying288 hi hcmp hj
 go_enter Tryz.func181,Tryz.ntmps181
 go_wp2
 refine wp_loop_rounds 1 ?_
 rw [rounds_succ]
 go_wp2
 go_ret
 exact ⟨rfl,rfl⟩
theorem is_nil (b:Addr) (w:World):
  Calls Tryz.prog 181 #[.nilIface,errV b] w fun e w'=>e= .returned (.bool false)∧w=w':=by
 have hn:=run_eql_iface_nil_left (P:=Tryz.prog) w 288 (.pointer (some b)) Tryz.underlying118
 go_enter Tryz.func181,Tryz.ntmps181
 go_wp2
 go_ret
 exact ⟨rfl,rfl⟩
theorem is_other (a b:Addr) (ca cb:Array Value) (ta tb:TypeId) (w:World) (hne:a≠b) (ha:w.heap[a.block]? =some (.cells ca ta (0,0))) (hb:w.heap[b.block]? =some (.cells cb tb (0,0))):
  Calls Tryz.prog 181 #[errV a,errV b] w fun e w'=>e= .returned (.bool false)∧w=w':=by
 obtain ⟨i,hi,hcmp⟩:=Option.map_eq_some_iff.1 isComp
 obtain ⟨j,hj,hjs⟩:=Option.map_eq_some_iff.1 isSize
 have h8:= @run_callFunc_extern Tryz.prog 218 _ Extern.ReflectliteType.typeOf Tryz.func218 (by kernel_rfl) (by kernel_rfl) (by kernel_rfl) (by kernel_rfl)
 have h32:= @run_callFunc_extern Tryz.prog 267 _ cmpRow Tryz.func267 (by kernel_rfl) (by kernel_rfl) (by kernel_rfl) (by kernel_rfl)
 have tT:=isTypeOf
 have cT:=isComparable
 have mR:=isMethodComparable
 rw [typesN] at mR
 have nE:=noIsE
 have uE:=noUnwrapE
 have vE:=noUnwrapsE
 have heq:=run_eql_iface_ptr_other (P:=Tryz.prog) w Tryz.underlying118 Tryz.underlying288 hi hcmp hj (by rw [hjs];decide) hne ha hb
 go_enter Tryz.func181,Tryz.ntmps181
 go_wp2
 refine wp_loop_rounds 1 ?_
 rw [rounds_succ]
 go_wp2
 go_ret
 exact ⟨rfl,rfl⟩
theorem heap_lt {w:World} {k:Nat} {o:Obj} (h:w.heap[k]? =some o):k<w.heap.size:=(Array.getElem?_eq_some_iff.1 h).1
structure SentF (am an:Addr) (w:World):Prop where
 grain:w.cell? ⟨3,0,none⟩=some (errV an)
 none_:w.cell? ⟨2,0,none⟩=some (errV am)
 ne:am≠an
 bm:∃c t,w.heap[am.block]? =some (.cells c t (0,0))
 bn:∃c t,w.heap[an.block]? =some (.cells c t (0,0))
theorem SentF.below {am an:Addr} {w w':World} (h:SentF am an w) (hb:Below w.heap.size w w'):SentF am an w':=by
 obtain ⟨h1,h2,h3,⟨c,t,h4⟩,c',t',h5⟩:=h
 exact ⟨cell_step h1 hb,cell_step h2 hb,h3,⟨c,t,(hb.block _ (heap_lt h4)).trans h4⟩,c',t',(hb.block _ (heap_lt h5)).trans h5⟩
def ferrOf (am an:Addr) (c:Nat):Value:=if c=0 then .nilIface else if c=110 then errV an else errV am
theorem ftold_any (am an:Addr) (c:Nat) (hc:c=0∨c=110∨c=140) (w:World) (hs:SentF am an w):
  Calls Tryz.prog 122 #[ferrOf am an c] w fun e w'=>e= .returned (.int .i64 (c:Int))∧w=w':=by
 obtain ⟨h1,h2,h3,⟨c4,t4,h4⟩,c5,t5,h5⟩:=hs
 rcases hc with rfl|rfl|rfl
 ·simp only [ferrOf,if_true]
  go_enter Tryz.func122,Tryz.ntmps122
  go_wp2_with (go_at_call 181;refine (is_nil _ _).mono ?_;rintro e w' ⟨rfl,rfl⟩)
  go_ret
  exact ⟨rfl,rfl⟩
 ·have ho:=hid (is_other an am c5 c4 t5 t4 w (Ne.symm h3) h5 h4)
  have hsm:=hid (is_same an w)
  simp only [ferrOf]
  clear h3 h4 h5
  go_enter Tryz.func122,Tryz.ntmps122
  go_wp2_with (go_at_call 181;first|((with_reducible refine (ho.out).mono ?_);rintro e w' ⟨rfl,rfl⟩)|((with_reducible refine (hsm.out).mono ?_);rintro e w' ⟨rfl,rfl⟩))
  go_ret
  exact ⟨rfl,rfl⟩
 ·have hsm:=hid (is_same am w)
  simp only [ferrOf]
  clear h3 h4 h5
  go_enter Tryz.func122,Tryz.ntmps122
  go_wp2_with (go_at_call 181;((with_reducible refine (hsm.out).mono ?_);rintro e w' ⟨rfl,rfl⟩))
  go_ret
  exact ⟨rfl,rfl⟩
def isGrainB (g:Int):Bool:=decide (1≤g)&&decide (g≤1000000000)
theorem refIsGrain_any (t:Int) (w:World):
  Calls Tryz.prog 134 #[.int .i64 t] w fun e w'=>e= .returned (.bool (isGrainB t))∧w=w':=by
 go_enter Tryz.func134,Tryz.ntmps134
 go_wp2
 all_goals go_ret
 ·exact ⟨by simp [isGrainB, *],rfl⟩
 ·have h:¬1≤t:=by omega
  exact ⟨by simp [isGrainB,h],rfl⟩
theorem areGrains_any (zs:List Int) (b off cap:Nat) (w:World) (hlen:zs.length≤1000) (hoff:off≤1000)
  (hc:∀j,j<zs.length→w.cell? ⟨b,off+j,none⟩=some (.int .i64 (zs[j]?.getD 0))):
  Calls Tryz.prog 121 #[.slice (some ⟨b,off,none⟩) zs.length cap] w fun e w'=>e= .returned (.bool (zs.all isGrainB))∧w=w':=by
 go_enter Tryz.func121,Tryz.ntmps121
 go_wp2
 go_loop [4,7] (fun g i=>∃k:Nat,k≤zs.length∧i= .int .i64 k∧(zs.take k).all isGrainB=true) (fun _ i=>zs.length-(intOf i).toNat)
 case atStart=>exact ⟨0,Nat.zero_le _,rfl,rfl⟩
 case round=>
  obtain ⟨k,hk,rfl,hall⟩:=hrel
  have hcell:k<zs.length→w.cell? ⟨b,off+k,none⟩=some (.int .i64 (zs[k]?.getD 0)):=fun _=>hc k (by omega)
  have HB:=hid (fun h=>all_take_succ zs isGrainB k h hall)
  have HG:=hid (fun h=>all_false_of zs isGrainB k h)
  have HA:=hid hall
  clear hall
  go_wp2
  ·have hlt:k<zs.length:=by assumption
   go_ret
   exact ⟨ret_bool (HG.out hlt (by simp [isGrainB];omega)).symm,rfl⟩
  ·have hlt:k<zs.length:=by assumption
   go_round
   case rel=>exact ⟨k+1,by omega,by go_num,by rw [HB.out hlt];simp [isGrainB, *]⟩
   case measure=>simp [intOf];omega
  ·have hlt:k<zs.length:=by assumption
   go_ret
   exact ⟨ret_bool (HG.out hlt (by simp [isGrainB];omega)).symm,rfl⟩
  ·have hge:¬k<zs.length:=by assumption
   obtain rfl:k=zs.length:=by omega
   go_ret
   exact ⟨ret_bool (by have:=HA.out;rw [List.take_length] at this;exact this.symm),rfl⟩
theorem isGrainB_iff (t:Int):isGrainB t=true↔1≤t∧t≤1000000000:=by simp [isGrainB]
theorem one_cell (w:World) (g:Int) (T:TypeId):∀j,j<[g].length→(w.alloc (.cells #[.int .i64 g] T)).cell? ⟨w.heap.size,0+j,none⟩=some (.int .i64 ([g][j]?.getD 0)):=by
 intro j hj
 obtain rfl:j=0:=by simpa using hj
 simp
def gRightB (f t:Int):Bool:=decide (0≤f)&&decide (f≤t)&&decide (t≤1000000000001)
def gCoarserB (a b:Int):Bool:=isGrainB a&&isGrainB b&&decide (b % a=0)
def gFitsB (f t g:Int):Bool:=gRightB f t&&isGrainB g&&decide (f % g=0)&&(decide (t=1000000000001)||decide (t % g=0))
theorem gRightB_iff (f t:Int):gRightB f t=true↔0≤f∧f≤t∧t≤1000000000001:=by simp [gRightB,and_assoc]
theorem two_cells (w:World) (g h:Int) (T:TypeId):∀j,j<[g,h].length→(w.alloc (.cells #[.int .i64 g,.int .i64 h] T)).cell? ⟨w.heap.size,0+j,none⟩=some (.int .i64 ([g,h][j]?.getD 0)):=by
 intro j hj
 match j,hj with
 |0,_=>simp
 |1,_=>simp
theorem gRight_any (f t:Int) (w:World):
  Calls Tryz.prog 225 #[.agg #[.int .i64 f,.int .i64 t]] w fun e w'=>e= .returned (.bool (gRightB f t))∧Below w.heap.size w w':=by
 go_enter Tryz.func225,Tryz.ntmps225
 go_wp2
 all_goals go_ret
 all_goals refine ⟨ret_bool ?_,by go_grown⟩
 all_goals simp [gRightB]
 all_goals omega
theorem gCoarser_any (a b:Int) (w:World):
  Calls Tryz.prog 57 #[.int .i64 a,.int .i64 b] w fun e w'=>e= .returned (.bool (gCoarserB a b))∧Below w.heap.size w w':=by
 by_cases h:(isGrainB a&&isGrainB b)=true
 ·have h1:=(isGrainB_iff a).1 (by simp at h;exact h.1)
  have h2:=(isGrainB_iff b).1 (by simp at h;exact h.2)
  have hV:gCoarserB a b=decide (b % a=0):=by simp [gCoarserB,h]
  rw [hV]
  have H1:=hid h;clear h hV
  go_enter Tryz.func57,Tryz.ntmps57
  go_wp2_with (go_at_call 121;refine (areGrains_any [a,b] _ 0 _ _ (by simp) (by simp) (two_cells _ _ _ _)).mono ?_;rintro e w' ⟨rfl,rfl⟩;simp only [List.all_cons,List.all_nil,Bool.and_true,H1.out])
  go_ret
  exact ⟨ret_bool (by first|rfl|simp),by go_grown⟩
 ·have hV:gCoarserB a b=false:=by simp [gCoarserB,Bool.eq_false_iff.2 h]
  rw [hV]
  have H1:=hid (Bool.eq_false_iff.2 h);clear h hV
  go_enter Tryz.func57,Tryz.ntmps57
  go_wp2_with (go_at_call 121;refine (areGrains_any [a,b] _ 0 _ _ (by simp) (by simp) (two_cells _ _ _ _)).mono ?_;rintro e w' ⟨rfl,rfl⟩;simp only [List.all_cons,List.all_nil,Bool.and_true,H1.out])
  go_ret
  exact ⟨rfl,by go_grown⟩
theorem gFits_any (f t g:Int) (w:World):
  Calls Tryz.prog 184 #[.agg #[.int .i64 f,.int .i64 t],.int .i64 g] w fun e w'=>e= .returned (.bool (gFitsB f t g))∧Below w.heap.size w w':=by
 by_cases hr:gRightB f t=true
 ·have hr':=(gRightB_iff f t).1 hr
  by_cases hg:isGrainB g=true
  ·have hg':=(isGrainB_iff g).1 hg
   have hV:gFitsB f t g=(decide (f % g=0)&&(decide (t=1000000000001)||decide (t % g=0))):=by simp [gFitsB,hr,hg]
   rw [hV]
   have H1:=hid hr;have H2:=hid hg;clear hr hg hV
   go_enter Tryz.func184,Tryz.ntmps184
   go_wp2_with (first
    |(go_at_call 225;refine (gRight_any _ _ _).mono ?_;rintro e w1 ⟨rfl,hb1⟩;rw [H1.out];obtain ⟨hc1,hf1,hk1,hz1⟩:=bcell3 hb1;(try simp only [World.size_alloc,World.size_drew] at hz1))
    |(go_at_call 121;refine (areGrains_any [g] _ 0 _ _ (by simp) (by simp) (one_cell _ _ _)).mono ?_;rintro e w' ⟨rfl,rfl⟩;simp only [List.all_cons,List.all_nil,Bool.and_true,H2.out]))
   all_goals go_ret
   all_goals exact ⟨ret_bool (by first|(simp [*];done)|grind),Gr⟩
  ·have hV:gFitsB f t g=false:=by simp [gFitsB,hg]
   rw [hV]
   have H1:=hid hr;have H2:=hid (Bool.eq_false_iff.2 hg);clear hr hg hV
   go_enter Tryz.func184,Tryz.ntmps184
   go_wp2_with (first
    |(go_at_call 225;refine (gRight_any _ _ _).mono ?_;rintro e w1 ⟨rfl,hb1⟩;rw [H1.out];obtain ⟨hc1,hf1,hk1,hz1⟩:=bcell3 hb1;(try simp only [World.size_alloc,World.size_drew] at hz1))
    |(go_at_call 121;refine (areGrains_any [g] _ 0 _ _ (by simp) (by simp) (one_cell _ _ _)).mono ?_;rintro e w' ⟨rfl,rfl⟩;simp only [List.all_cons,List.all_nil,Bool.and_true,H2.out]))
   go_ret
   exact ⟨rfl,Gr⟩
 ·have hV:gFitsB f t g=false:=by simp [gFitsB,hr]
  rw [hV]
  have H1:=hid (Bool.eq_false_iff.2 hr);clear hr hV
  go_enter Tryz.func184,Tryz.ntmps184
  go_wp2_with (go_at_call 225;refine (gRight_any _ _ _).mono ?_;rintro e w1 ⟨rfl,hb1⟩;rw [H1.out];obtain ⟨hc1,hf1,hk1,hz1⟩:=bcell3 hb1;(try simp only [World.size_alloc,World.size_drew] at hz1))
  go_ret
  exact ⟨rfl,Gr⟩
theorem gRefRight_any (f t:Int) (w:World):
  Calls Tryz.prog 233 #[.agg #[.int .i64 f,.int .i64 t]] w fun e w'=>e= .returned (.bool (gRightB f t))∧Below w.heap.size w w':=by
 go_enter Tryz.func233,Tryz.ntmps233
 go_wp2
 all_goals go_ret
 all_goals exact ⟨ret_bool (by simp [gRightB];grind),Gr⟩
theorem gRefFits_any (f t g:Int) (w:World):
  Calls Tryz.prog 194 #[.agg #[.int .i64 f,.int .i64 t],.int .i64 g] w fun e w'=>e= .returned (.bool (gFitsB f t g))∧Below w.heap.size w w':=by
 by_cases hr:gRightB f t=true
 ·have hr':=(gRightB_iff f t).1 hr
  by_cases hg:isGrainB g=true
  ·have hg':=(isGrainB_iff g).1 hg
   have hV:gFitsB f t g=(decide (f % g=0)&&(decide (t=1000000000001)||decide (t % g=0))):=by simp [gFitsB,hr,hg]
   rw [hV]
   have H1:=hid hr;have H2:=hid hg;clear hr hg hV
   go_enter Tryz.func194,Tryz.ntmps194
   go_wp2_with (first
    |(go_at_call 233;refine (gRefRight_any _ _ _).mono ?_;rintro e w1 ⟨rfl,hb1⟩;rw [H1.out];obtain ⟨hc1,hf1,hk1,hz1⟩:=bcell3 hb1;(try simp only [World.size_alloc,World.size_drew] at hz1))
    |(go_at_call 134;refine (refIsGrain_any _ _).mono ?_;rintro e w' ⟨rfl,rfl⟩;rw [H2.out]))
   all_goals go_ret
   all_goals exact ⟨ret_bool (by first|(simp [*];done)|grind),Gr⟩
  ·have hV:gFitsB f t g=false:=by simp [gFitsB,hg]
   rw [hV]
   have H1:=hid hr;have H2:=hid (Bool.eq_false_iff.2 hg);clear hr hg hV
   go_enter Tryz.func194,Tryz.ntmps194
   go_wp2_with (first
    |(go_at_call 233;refine (gRefRight_any _ _ _).mono ?_;rintro e w1 ⟨rfl,hb1⟩;rw [H1.out];obtain ⟨hc1,hf1,hk1,hz1⟩:=bcell3 hb1;(try simp only [World.size_alloc,World.size_drew] at hz1))
    |(go_at_call 134;refine (refIsGrain_any _ _).mono ?_;rintro e w' ⟨rfl,rfl⟩;rw [H2.out]))
   go_ret
   exact ⟨rfl,Gr⟩
 ·have hV:gFitsB f t g=false:=by simp [gFitsB,hr]
  rw [hV]
  have H1:=hid (Bool.eq_false_iff.2 hr);clear hr hV
  go_enter Tryz.func194,Tryz.ntmps194
  go_wp2_with (go_at_call 233;refine (gRefRight_any _ _ _).mono ?_;rintro e w1 ⟨rfl,hb1⟩;rw [H1.out];obtain ⟨hc1,hf1,hk1,hz1⟩:=bcell3 hb1;(try simp only [World.size_alloc,World.size_drew] at hz1))
  go_ret
  exact ⟨rfl,Gr⟩
theorem gRefCoarser_any (a b:Int) (w:World):
  Calls Tryz.prog 71 #[.int .i64 a,.int .i64 b] w fun e w'=>e= .returned (.bool (gCoarserB a b))∧w=w':=by
 by_cases ha:isGrainB a=true
 ·have ha':=(isGrainB_iff a).1 ha
  by_cases hb:isGrainB b=true
  ·have hb':=(isGrainB_iff b).1 hb
   have hV:gCoarserB a b=decide (b % a=0):=by simp [gCoarserB,ha,hb]
   rw [hV]
   have H1:=hid ha;have H2:=hid hb;clear ha hb hV
   go_enter Tryz.func71,Tryz.ntmps71
   go_wp2_with (go_at_call 134;refine (refIsGrain_any _ _).mono ?_;rintro e w' ⟨rfl,rfl⟩;first|rw [H1.out]|rw [H2.out])
   all_goals go_ret
   all_goals exact ⟨ret_bool (by first|(simp [*];done)|grind),rfl⟩
  ·have hV:gCoarserB a b=false:=by simp [gCoarserB,hb]
   rw [hV]
   have H1:=hid ha;have H2:=hid (Bool.eq_false_iff.2 hb);clear ha hb hV
   go_enter Tryz.func71,Tryz.ntmps71
   go_wp2_with (go_at_call 134;refine (refIsGrain_any _ _).mono ?_;rintro e w' ⟨rfl,rfl⟩;first|rw [H1.out]|rw [H2.out])
   all_goals go_ret
   all_goals exact ⟨rfl,rfl⟩
 ·have hV:gCoarserB a b=false:=by simp [gCoarserB,ha]
  rw [hV]
  have H1:=hid (Bool.eq_false_iff.2 ha);clear ha hV
  go_enter Tryz.func71,Tryz.ntmps71
  go_wp2_with (go_at_call 134;refine (refIsGrain_any _ _).mono ?_;rintro e w' ⟨rfl,rfl⟩;rw [H1.out])
  all_goals go_ret
  all_goals exact ⟨rfl,rfl⟩
attribute [local go_sem] Oper.semAt_some
theorem walk_any (S:Nat→Prop) (w0:World) (lo hi:Nat):∀(d deep:Nat) (cs:List Value) (f:FilD),FilS S w0 d cs f→deep+d≤1000→WalkEx S w0 lo hi d deep cs f
 |0,_,_,_,h,_=>by simp [FilS] at h
 |d+1,deep,cs,f,h,hd=>walk_step S w0 lo hi d (walk_any S w0 lo hi d) deep cs f h hd
def encL (NL:List (Array Value)) (k:Nat):Array Value:=NL[k]?.getD #[.int .i64 0,.nilIface]
theorem encL_size {S:Nat→Prop} {w0:World}:∀{NL:List (Array Value)} {L:List (Nat×FilD)},Both (NodeIs S w0) NL L→∀k,(encL NL k).size=2
 |[],[],_,_=>rfl
 |a::NL,p::L,h,0=>by obtain ⟨_,_,rfl,_⟩:=h.1;rfl
 |a::NL,p::L,h,k+1=>encL_size h.2 k
 |[],_::_,h,_=>h.elim
 |_::_,[],h,_=>h.elim
theorem filters_any (cs:List Value) (deep:Int) (w:World):
  Calls Tryz.prog 182 #[.agg cs.toArray,.int .i64 deep] w fun e w'=>e= .returned (.func (.func 220) #[] #[.pointer (some ⟨w.heap.size,0,none⟩),.pointer (some ⟨w.heap.size+1,0,none⟩)])∧w'=(w.alloc (.cells cs.toArray 29)).alloc (.cells #[.int .i64 deep] 3):=by
 go_enter Tryz.func182,Tryz.ntmps182
 go_wp2
 go_ret
 exact ⟨rfl,rfl⟩
theorem filters_seq (S:Nat→Prop) (D deep:Nat) (cs:List Value) (f:FilD) (b1 lo hi:Nat) (w0 w:World) (NL:List (Array Value)) (hf:FilS S w0 D cs f) (hW:WalkOk w0 lo hi deep cs NL) (hb1:lo≤b1∧b1+1<hi) (hw:hi≤w.heap.size) (hn₀:w0.heap.size≤w.heap.size) (hB:Below w0.heap.size w0 w)
  (c0:w.heap[b1]? =some (.cells cs.toArray 29 (0,0))) (c1:w.cell? ⟨b1+1,0,none⟩=some (.int .i64 (deep:Int))):
  SeqN Tryz.prog 220 #[.pointer (some ⟨b1,0,none⟩),.pointer (some ⟨b1+1,0,none⟩)] (encL NL) w0.heap.size lo hi NL.length w:=by
 intro n l J Jx W hWb hJ hJx hY h00
 have hzW:=hWb.size
 obtain ⟨k,nm,aw,lw,cw,fr,till,al,ll,cl,rfl⟩:=hf.six
 have a0:=cell_step (cell_blk c0 (x:= .int .i64 k) (i:=0) rfl) hWb
 have a1:=cell_step (cell_blk c0 (x:= .string nm) (i:=1) rfl) hWb
 have a2:=cell_step (cell_blk c0 (x:= .slice aw lw cw) (i:=2) rfl) hWb
 have a3:=cell_step (cell_blk c0 (x:= .int .i64 fr) (i:=3) rfl) hWb
 have a4:=cell_step (cell_blk c0 (x:= .int .i64 till) (i:=4) rfl) hWb
 have a5:=cell_step (cell_blk c0 (x:= .slice al ll cl) (i:=5) rfl) hWb
 replace c1:=cell_step c1 hWb
 have HW:=hid (hW n l W.heap.size J Jx W (fun i hi=>(hWb.block i (by omega)).trans (hB.block i hi)) (by omega) (by omega) (Nat.le_refl _) hJ hJx (fun k a ha W1 h1 h2=>by
  have hk:=(List.getElem?_eq_some_iff.1 ha).1
  have:=hY k hk W1 h1 h2
  unfold encL at this
  rw [ha] at this
  exact this) h00)
 clear hY hJ hJx h00 hW hf c0 hB hWb
 refine (callsIn_wide (n:=n+1)).1 (callsIn_of_wp Tryz.func220 rfl trivial ?_ rfl)
 simp only [Tryz.ntmps220,List.size_toArray,List.length_cons,List.length_nil,Nat.reduceAdd,Nat.reduceSub,Array.replicate_succ,Array.replicate_zero,List.push_toArray,List.append_toArray,List.nil_append,List.cons_append]
 gi_wp2
 refine ⟨trivial,((callsIn_wide (n:=_)).2 HW.out).mono ?_⟩
 rintro e W5 ⟨hp5,⟨rfl,hJ5⟩|⟨rfl,k5,hk5,hJ5⟩⟩
 ·gi_wp2
  go_end0
  exact ⟨⟨_,rfl⟩,.inl hJ5⟩
 ·gi_wp2
  go_end0
  exact ⟨⟨_,rfl⟩,.inr ⟨k5,hk5,hJ5⟩⟩
attribute [local go_sem] Oper.semAt_some
def FilD.kind:FilD→Int| .mk k _ _ _ _ _=>k
def FilD.fr:FilD→Int| .mk _ _ _ fr _ _=>fr
def FilD.till:FilD→Int| .mk _ _ _ _ till _=>till
def badF (ds ms:List ByteArray) (g:Int) (k:Nat) (p:Nat×FilD):Bool:=decide (40<k+1)||(decide (6<p.1)|| !filRightB ds ms g p.2)
def grainF (g:Int) (p:Nat×FilD):Bool:=p.2.kind==6&& !gFitsB p.2.fr p.2.till g
def eAtF (g:Int) (L:List (Nat×FilD)) (k:Nat):Nat:=if (L.take k).any (grainF g)=true then 110 else 0
def noBadF (ds ms:List ByteArray) (g:Int) (L:List (Nat×FilD)) (k:Nat):Prop:=∀j p,L[j]? =some p→j<k→badF ds ms g j p=false
def anyBadF (ds ms:List ByteArray) (g:Int) (L:List (Nat×FilD)):Bool:=(List.range L.length).any fun j=>match L[j]? with|some p=>badF ds ms g j p|none=>false
def resF (ds ms:List ByteArray) (g:Int) (L:List (Nat×FilD)):Nat:=if anyBadF ds ms g L=true then 140 else eAtF g L L.length
theorem eAtF_succ {g:Int} {L:List (Nat×FilD)} {k:Nat} {p:Nat×FilD} (h:L[k]? =some p):eAtF g L (k+1)=if grainF g p=true then 110 else eAtF g L k:=by
 obtain ⟨hk,rfl⟩:=List.getElem?_eq_some_iff.1 h
 unfold eAtF
 rw [List.take_succ_eq_append_getElem hk,List.any_append,List.any_cons,List.any_nil,Bool.or_false]
 cases (L.take k).any (grainF g)<;>cases grainF g L[k]<;>rfl
theorem eAtF_is (g:Int) (L:List (Nat×FilD)) (k:Nat):eAtF g L k=0∨eAtF g L k=110:=by
 unfold eAtF
 split
 ·exact .inr rfl
 ·exact .inl rfl
theorem resF_bad {ds ms:List ByteArray} {g:Int} {L:List (Nat×FilD)} {k:Nat} {p:Nat×FilD} (h:L[k]? =some p) (hb:badF ds ms g k p=true):resF ds ms g L=140:=by
 unfold resF
 rw [if_pos]
 unfold anyBadF
 rw [List.any_eq_true]
 exact ⟨k,List.mem_range.2 (List.getElem?_eq_some_iff.1 h).1,by rw [h];exact hb⟩
theorem resF_good {ds ms:List ByteArray} {g:Int} {L:List (Nat×FilD)} (h:noBadF ds ms g L L.length):resF ds ms g L=eAtF g L L.length:=by
 unfold resF
 rw [if_neg]
 unfold anyBadF
 rw [List.any_eq_true]
 rintro ⟨k,hk,hb⟩
 have hk2:=List.mem_range.1 hk
 rw [List.getElem?_eq_getElem hk2] at hb
 have:=h k _ (List.getElem?_eq_getElem hk2) hk2
 dsimp only at hb
 rw [this] at hb
 cases hb
theorem noBadF_succ {ds ms:List ByteArray} {g:Int} {L:List (Nat×FilD)} {k:Nat} {p:Nat×FilD} (h:noBadF ds ms g L k) (hp:L[k]? =some p) (hb:badF ds ms g k p=false):noBadF ds ms g L (k+1):=fun j q hq hj=>by
 by_cases hjk:j<k
 ·exact h j q hq hjk
 ·obtain rfl:j=k:=by omega
  rw [hp] at hq
  cases hq
  exact hb
def chJ (sv:Array Value) (am an:Addr) (ds ms:List ByteArray) (g:Int) (L:List (Nat×FilD)) (w:World) (k:Nat) (X:World):Prop:=
 X.heap[w.heap.size]? =some (.cells sv 45 (0,0))∧X.heap[w.heap.size+1+1]? =some (.cells #[ferrOf am an (eAtF g L k)] 118 (0,0))∧X.heap[w.heap.size+1+1+1]? =some (.cells #[.int .i64 (k:Int)] 3 (0,0))∧Below w.heap.size w X∧noBadF ds ms g L k
def chX (am an:Addr) (ds ms:List ByteArray) (g:Int) (L:List (Nat×FilD)) (w:World) (c:Code) (k:Nat) (X:World):Prop:=
 X.heap[w.heap.size+1+1]? =some (.cells #[ferrOf am an 140] 118 (0,0))∧Below w.heap.size w X∧resF ds ms g L=140∧c= .exit 0
def ChkPost (am an:Addr) (r:Nat) (w:World) (e:Ending) (w':World):Prop:=e= .returned (ferrOf am an r)∧Below w.heap.size w w'
set_option maxHeartbeats 8000000 in
theorem checked_any (S:Nat→Prop) (D:Nat) (cs:List Value) (f:FilD) (vd vm:Value) (ds ms:List ByteArray) (g:Int) (am an:Addr) (w:World) (hd:StrsSl w vd ds) (hm:StrsSl w vm ms) (td:Texts ds) (tm:Texts ms)
  (hf:FilS S w D cs f) (hD:D≤900) (hsm:∀p∈flatN D 1 f,KindsN 1 p.2∧p.2.words.length≤1000000) (hS:SentF am an w):
  Calls Tryz.prog 123 #[.agg #[vd,vm,.int .i64 g],.agg cs.toArray] w (ChkPost am an (resF ds ms g (flatN D 1 f)) w):=by
 obtain ⟨NL,hBo,hWk⟩:=walk_any S w (w.heap.size+1+1+1+1) (w.heap.size+1+1+1+1+2) D 1 cs f hf (by omega)
 have HFS:=hid hf
 obtain ⟨k,nm,aw,lw,cw,fr,till,al,ll,cl,rfl⟩:=hf.six
 obtain ⟨L,hL⟩:∃L,flatN D 1 f=L:=⟨_,rfl⟩
 rw [hL] at hBo hsm ⊢
 have HHD:=hid hd;have HHM:=hid hm;have HSF:=hid hS;have HTD:=hid td;have HTM:=hid tm;have HSM:=hid hsm
 have FA:=hid (fun W=>filters_any [.int .i64 k,.string nm,.slice aw lw cw,.int .i64 fr,.int .i64 till,.slice al ll cl] 1 W)
 have HNL:=hid hBo.length
 obtain ⟨ad,cd,rfl,_,_,_⟩:=SlAt.shape hd
 obtain ⟨am',cm,rfl,_,_,_⟩:=SlAt.shape hm
 have HBo:=hid hBo;have HWk:=hid hWk
 clear hd hm td tm hf hsm hS hL hBo hWk
 refine calls_marks Tryz.func123 rfl ?_
 simp only [Tryz.ntmps123,List.size_toArray,List.length_cons,List.length_nil,Nat.reduceAdd,Nat.reduceSub,Array.replicate_succ,Array.replicate_zero,List.push_toArray,List.append_toArray,List.nil_append,List.cons_append]
 go_wp2
 refine wp_scope_straight ?_
 go_wp2
 refine wp_label ?_
 go_wp2_with (go_at_call 182;((with_reducible refine (FA.out _).mono ?_);rintro e w1 ⟨rfl,rfl⟩))
 obtain ⟨Y,hY⟩:∃Y,(((((w.alloc (.cells #[.slice ad ds.length cd,.slice am' ms.length cm,.int .i64 g] 45)).alloc (.cells #[.int .i64 k,.string nm,.slice aw lw cw,.int .i64 fr,.int .i64 till,.slice al ll cl] 29)).alloc (.cells #[.nilIface] 118)).alloc (.cells #[.int .i64 0] 3)).alloc (.cells #[.int .i64 k,.string nm,.slice aw lw cw,.int .i64 fr,.int .i64 till,.slice al ll cl] 29)).alloc (.cells #[.int .i64 1] 3)=Y:=⟨_,rfl⟩
 have hz:Y.heap.size=w.heap.size+1+1+1+1+2:=by rw [←hY];simp
 have hB:Below w.heap.size w Y:=by rw [←hY];exact Gr
 have y0:Y.heap[w.heap.size]? =some (.cells #[.slice ad ds.length cd,.slice am' ms.length cm,.int .i64 g] 45 (0,0)):=by rw [←hY];exact Bk
 have y2:Y.heap[w.heap.size+1+1]? =some (.cells #[.nilIface] 118 (0,0)):=by rw [←hY];exact Bk
 have y3:Y.heap[w.heap.size+1+1+1]? =some (.cells #[.int .i64 0] 3 (0,0)):=by rw [←hY];exact Bk
 have y4:Y.heap[w.heap.size+1+1+1+1]? =some (.cells [Value.int .i64 k,.string nm,.slice aw lw cw,.int .i64 fr,.int .i64 till,.slice al ll cl].toArray 29 (0,0)):=by rw [←hY];exact Bk
 have y5:Y.heap[w.heap.size+1+1+1+1+1]? =some (.cells #[.int .i64 1] 3 (0,0)):=by rw [←hY];exact Bk
 have HS:=filters_seq S D 1 _ f (w.heap.size+1+1+1+1) (w.heap.size+1+1+1+1) (w.heap.size+1+1+1+1+2) w Y NL HFS.out HWk.out ⟨Nat.le_refl _,by omega⟩ (by omega) (by omega) hB y4 (cell_of_one y5)
 rw [hY]
 clear hY y4 y5 FA HWk
 refine wp_rangeN (gf:=220) (lb:= #[.pointer (some ⟨w.heap.size+1+1+1+1,0,none⟩),.pointer (some ⟨w.heap.size+1+1+1+1+1,0,none⟩)]) rfl (enters_of Tryz.func220 (by kernel_rfl) rfl)
  HS ⟨by omega,by omega⟩ (fun k=>encL_size HBo.out k) (chJ #[.slice ad ds.length cd,.slice am' ms.length cm,.int .i64 g] am an ds ms g L w) (chX am an ds ms g L w) ?stab ?stabx ?start ?round ?done ?stop
 case stab=>exact fun k=>Stab.and Stab.block (Stab.and Stab.block (Stab.and Stab.block (Stab.and (Stab.below (Nat.le_refl _) (by omega)) (Stab.pure _))))
 case stabx=>exact fun c k=>Stab.and Stab.block (Stab.and (Stab.below (Nat.le_refl _) (by omega)) (Stab.pure _))
 case start=>exact ⟨y0,y2,y3,hB,fun j p _ hj=>absurd hj (Nat.not_lt_zero j)⟩
 case done=>
  intro D X' hD hI hK
  obtain ⟨h0,h2,h3,hbel,hnb⟩:=hI
  have c0:=cell_of_one h2
  have HR:Hid (eAtF g L NL.length=resF ds ms g L):=by unfold Hid;rw [HNL.out] at hnb ⊢;exact (resF_good hnb).symm
  clear hnb
  go_wp2
  (try rw [Exit.noGoto_ret])
  refine ret_mark (.inl rfl) hK fun w' hT=> ?_
  exact ⟨_,by simp only [results,Tryz.results123];go_simp;try rfl,by rw [HR.out],(Stab.below (Nat.le_refl _) (Nat.le_refl _)).turn hbel hT (by omega)⟩
 case stop=>
  rintro D c k X' hD hk ⟨h2,hbel,hres,rfl⟩ hK
  have c0:=cell_of_one h2
  have HR:=hid hres
  clear hres
  go_wp2
  (try rw [Exit.noGoto_ret])
  refine ret_mark (.inl rfl) hK fun w' hT=> ?_
  exact ⟨_,by simp only [results,Tryz.results123];go_simp;try rfl,by rw [HR.out],(Stab.below (Nat.le_refl _) (Nat.le_refl _)).turn hbel hT (by omega)⟩
 case round=>
  intro l' k0 X' hkN hI hl2 hlt hX
  obtain ⟨h0,h2,h3,hbel,hnb⟩:=hI
  have hkL:k0<L.length:=by rw [←HNL.out];exact hkN
  obtain ⟨p,hp⟩:∃p,L[k0]? =some p:=⟨_,List.getElem?_eq_getElem hkL⟩
  obtain ⟨a,ha,D',cs',rfl,hfp⟩:=HBo.out.get k0 p hp
  have hE:encL NL k0= #[.int .i64 (p.1:Int),.agg cs'.toArray]:=by unfold encL;rw [ha];rfl
  rw [hE]
  have hsm:=HSM.out p (List.mem_of_getElem? hp)
  have HFR:=hid (fun W (hb:Below w.heap.size w W)=>fisRight_any S D' p.2 cs' _ _ ds ms g W (HHD.out.below hb) (HHM.out.below hb) HTD.out HTM.out (hfp.below hb) hsm.1 hsm.2)
  have HSU:=hid (eAtF_succ (g:=g) hp)
  have HBS:=hid (fun h=>noBadF_succ hnb hp h)
  have HK40:Hid (k0≤40):=by
   unfold Hid
   rcases Nat.lt_or_ge 40 k0 with h|h
   ·have h4:40<L.length:=by omega
    have:=hnb 40 _ (List.getElem?_eq_getElem h4) h
    unfold badF at this
    simp at this
   ·exact h
  have HRB:=hid (fun h=>resF_bad (ds:=ds) (ms:=ms) (g:=g) hp h)
  obtain ⟨deep,f2⟩:=p
  dsimp only at*
  obtain ⟨k2,n2,ws2,fr2,till2,l2⟩:=f2
  cases D' with
  |zero=>simp [FilS] at hfp
  |succ D'=>
  unfold FilS at hfp
  obtain ⟨vw2,vl2,rows2,rfl,x1,hw2,x2,x3,x4,hl2',x5⟩:=hfp
  obtain ⟨aw2,cw2,rfl,_⟩:=SlAt.shape hw2.sl
  obtain ⟨al2,cl2,rfl,_⟩:=SlAt.shape hl2'.sl
  have HGF:=hid (fun W=>gFits_any fr2 till2 g W)
  have HBD:Hid (badF ds ms g k0 (deep,.mk k2 n2 ws2 fr2 till2 l2)=(decide (40<k0+1)||(decide (6<deep)|| !filRightB ds ms g (.mk k2 n2 ws2 fr2 till2 l2)))):=rfl
  have HGR:Hid (grainF g (deep,.mk k2 n2 ws2 fr2 till2 l2)=(k2==6&& !gFitsB fr2 till2 g)):=rfl
  generalize badF ds ms g k0 (deep,.mk k2 n2 ws2 fr2 till2 l2)=bad at*
  generalize grainF g (deep,.mk k2 n2 ws2 fr2 till2 l2)=gr at*
  generalize filRightB ds ms g (.mk k2 n2 ws2 fr2 till2 l2)=r at*
  generalize gFitsB fr2 till2 g=ft at*
  clear hw2 hl2' hsm hp ha hE hnb x1 x2 x3 x4 x5
  generalize ws2.length=nw2 at*;generalize l2.length=nl2 at*
  have HI:=hid (⟨h0,h2,h3,hbel⟩:_∧_∧_∧_)
  clear h0 h2 h3 hbel
  gi_wp2
  refine ⟨protN_below Gr (by omega) (by omega),fun W2 hT=> ?_⟩
  have lb0:=lt_of_block HI.out.1;have lb2:=lt_of_block HI.out.2.1;have lb3:=lt_of_block HI.out.2.2.1
  obtain ⟨W1,hW1⟩:∃W1,X'.alloc (.cells #[.int .i64 k2,.string n2,.slice aw2 nw2 cw2,.int .i64 fr2,.int .i64 till2,.slice al2 nl2 cl2] 29)=W1:=⟨_,rfl⟩
  rw [hW1] at hT
  have hzW:W1.heap.size=X'.heap.size+1:=by rw [←hW1];simp
  have b0:W2.heap[w.heap.size]? =some (.cells #[.slice ad ds.length cd,.slice am' ms.length cm,.int .i64 g] 45 (0,0)):=(hT.block (by omega) (by omega)).trans (by rw [←hW1];exact (heap_past lb0).trans HI.out.1)
  have b2:W2.heap[w.heap.size+1+1]? =some (.cells #[ferrOf am an (eAtF g L k0)] 118 (0,0)):=(hT.block (by omega) (by omega)).trans (by rw [←hW1];exact (heap_past lb2).trans HI.out.2.1)
  have b3:W2.heap[w.heap.size+1+1+1]? =some (.cells #[.int .i64 (k0:Int)] 3 (0,0)):=(hT.block (by omega) (by omega)).trans (by rw [←hW1];exact (heap_past lb3).trans HI.out.2.2.1)
  have bx:W2.heap[X'.heap.size]? =some (.cells #[.int .i64 k2,.string n2,.slice aw2 nw2 cw2,.int .i64 fr2,.int .i64 till2,.slice al2 nl2 cl2] 29 (0,0)):=(hT.block (by omega) (by omega)).trans (by rw [←hW1];exact heap_at rfl)
  have hbel2:Below w.heap.size w W2:=(Stab.below (Nat.le_refl _) (Nat.le_refl _)).turn (show Below w.heap.size w W1 by rw [←hW1];exact HI.out.2.2.2.new _) hT (by omega)
  have hSF:=HSF.out.below hbel2
  have gN:=hSF.none_;have gG:=hSF.grain
  have s0:=cell_blk (x:= .slice ad ds.length cd) (i:=0) b0 rfl;have s1:=cell_blk (x:= .slice am' ms.length cm) (i:=1) b0 rfl;have s2:=cell_blk (x:= .int .i64 g) (i:=2) b0 rfl
  have f0:=cell_blk (x:= .int .i64 k2) (i:=0) bx rfl;have f1:=cell_blk (x:= .string n2) (i:=1) bx rfl;have f2:=cell_blk (x:= .slice aw2 nw2 cw2) (i:=2) bx rfl;have f3:=cell_blk (x:= .int .i64 fr2) (i:=3) bx rfl;have f4:=cell_blk (x:= .int .i64 till2) (i:=4) bx rfl;have f5:=cell_blk (x:= .slice al2 nl2 cl2) (i:=5) bx rfl
  have c2:=cell_of_one b2;have d2:=free_of_one b2;have c3:=cell_of_one b3;have d3:=free_of_one b3
  have hlg:2<w.heap.size∧3<w.heap.size:=⟨World.block_lt_of_cell? _ _ HSF.out.none_,World.block_lt_of_cell? _ _ HSF.out.grain⟩
  obtain ⟨hg1,hg2⟩:=hlg
  have hzW2:X'.heap.size<W2.heap.size:=lt_of_block bx
  have HB:=hid (⟨b0,b2,b3,bx⟩:_∧_∧_∧_)
  have HBEL:=hid hbel2
  have hk900:(k0:Int)≤1000000000:=by have:=HK40.out;omega
  have hk00:(0:Int)≤(k0:Int):=Int.natCast_nonneg _
  have hd00:(0:Int)≤(deep:Int):=Int.natCast_nonneg _
  clear b0 b2 b3 bx hbel2 hSF hW1 hT hzW
  have H3:Hid (∀w3,Below (W2.setCell ⟨w.heap.size+1+1+1,0,none⟩ (.int .i64 ((k0:Int)+1))).heap.size (W2.setCell ⟨w.heap.size+1+1+1,0,none⟩ (.int .i64 ((k0:Int)+1))) w3→w3.heap[w.heap.size]? =some (.cells #[.slice ad ds.length cd,.slice am' ms.length cm,.int .i64 g] 45 (0,0))∧w3.heap[w.heap.size+1+1]? =some (.cells #[ferrOf am an (eAtF g L k0)] 118 (0,0))∧w3.heap[w.heap.size+1+1+1]? =some (.cells #[.int .i64 ((k0:Int)+1)] 3 (0,0))∧w3.heap[X'.heap.size]? =some (.cells #[.int .i64 k2,.string n2,.slice aw2 nw2 cw2,.int .i64 fr2,.int .i64 till2,.slice al2 nl2 cl2] 29 (0,0))∧SentF am an w3∧Below w.heap.size w w3∧W2.heap.size≤w3.heap.size∧ProtN w.heap.size (w.heap.size+1+1+1+1) (w.heap.size+1+1+1+1+2) Y.heap.size W2 w3):=fun w3 hb3=>by
   have hbz:Below w.heap.size w (W2.setCell ⟨w.heap.size+1+1+1,0,none⟩ (.int .i64 ((k0:Int)+1))):=HBEL.out.setCell (by dsimp only;omega) _
   have hz3:=hb3.size
   simp only [World.size_setCell] at hz3
   refine ⟨blk_below (by rw [heap_set_other (by omega)];exact HB.out.1) hb3,blk_below (by rw [heap_set_other (by omega)];exact HB.out.2.1) hb3,blk_below (heap_set_same HB.out.2.2.1) hb3,blk_below (by rw [heap_set_other (by omega)];exact HB.out.2.2.2) hb3,HSF.out.below (hbz.step hb3),hbz.step hb3,hz3,?_⟩
   exact (protN_put (ProtN.refl _ _ _ _ _) (by dsimp only;omega) (by dsimp only;omega) (by dsimp only;omega) _).trans (protN_below hb3 (by simp only [World.size_setCell];omega) (by simp only [World.size_setCell];omega))
  by_cases h40:40<k0+1
  ·have h40I:(40:Int)<(k0:Int)+1:=by omega
   have h40D:decide ((40:Int)<(k0:Int)+1)=true:=by simpa using h40I
   have hres:=HRB.out (by rw [HBD.out];simp [h40])
   have HRES:=hid hres
   clear hres
   gi_wp2
   refine ⟨trivial,?_⟩
   gi_wp2
   refine ⟨protN_put (protN_put (ProtN.refl _ _ _ _ _) (by dsimp only;omega) (by dsimp only;omega) (by dsimp only;omega) _) (by dsimp only;omega) (by dsimp only;omega) (by dsimp only;omega) _,?_,(HBEL.out.setCell (by dsimp only;omega) _).setCell (by dsimp only;omega) _,HRES.out,rfl⟩
   exact heap_set_same (by rw [heap_set_other (by omega)];exact HB.out.2.1)
  ·have h40I:¬(40:Int)<(k0:Int)+1:=by omega
   have h40D:decide ((40:Int)<(k0:Int)+1)=false:=by simpa using h40I
   by_cases h6:6<deep
   ·have h6I:(6:Int)<(deep:Int):=by omega
    have HRES:=hid (HRB.out (by rw [HBD.out];simp [h6]))
    gi_wp2
    refine ⟨trivial,?_⟩
    gi_wp2
    refine ⟨protN_put (protN_put (ProtN.refl _ _ _ _ _) (by dsimp only;omega) (by dsimp only;omega) (by dsimp only;omega) _) (by dsimp only;omega) (by dsimp only;omega) (by dsimp only;omega) _,?_,(HBEL.out.setCell (by dsimp only;omega) _).setCell (by dsimp only;omega) _,HRES.out,rfl⟩
    exact heap_set_same (by rw [heap_set_other (by omega)];exact HB.out.2.1)
   ·have h6I:¬(6:Int)<(deep:Int):=by omega
    have h6D:decide ((6:Int)<(deep:Int))=false:=by simpa using h6I
    cases r
    ·have HRES:=hid (HRB.out (by rw [HBD.out];simp))
     gi_wp2_with (refine ⟨trivial,(callsIn_any (HFR.out _ (HBEL.out.setCell (by dsimp only;omega) _))).mono ?_⟩;rintro e w3 ⟨rfl,hb3⟩;have HH:=hid (H3.out _ hb3);have gN3:=HH.out.2.2.2.2.1.none_;have k2':=cell_of_one HH.out.2.1;have m2':=free_of_one HH.out.2.1;have hz3:=HH.out.2.2.2.2.2.2.1;clear hb3)
     refine ⟨HH.out.2.2.2.2.2.2.2.trans (protN_put (ProtN.refl _ _ _ _ _) (by dsimp only;omega) (by dsimp only;omega) (by dsimp only;omega) _),heap_set_same HH.out.2.1,HH.out.2.2.2.2.2.1.setCell (by dsimp only;omega) _,HRES.out,rfl⟩
    ·have HNB:=hid (HBS.out (by rw [HBD.out];simp [h40,h6]))
     have e1:Hid (((k0+1:Nat):Int)=(k0:Int)+1):=by unfold Hid;omega
     by_cases hk6:k2=6
     ·subst hk6
      cases ft
      ·have HSU2:Hid (eAtF g L (k0+1)=110):=by unfold Hid;rw [HSU.out,HGR.out];rfl
       gi_wp2_with (first
        |(refine ⟨trivial,(callsIn_any (HFR.out _ (HBEL.out.setCell (by dsimp only;omega) _))).mono ?_⟩;rintro e w3 ⟨rfl,hb3⟩;have HH:=hid (H3.out _ hb3);have gG3:=HH.out.2.2.2.2.1.grain;have k2':=cell_of_one HH.out.2.1;have m2':=free_of_one HH.out.2.1;have u0:=cell_blk (x:= .int .i64 6) (i:=0) HH.out.2.2.2.1 rfl;have u3:=cell_blk (x:= .int .i64 fr2) (i:=3) HH.out.2.2.2.1 rfl;have u4:=cell_blk (x:= .int .i64 till2) (i:=4) HH.out.2.2.2.1 rfl;have v2:=cell_blk (x:= .int .i64 g) (i:=2) HH.out.1 rfl;have hz3:=HH.out.2.2.2.2.2.2.1;clear hb3)
        |(refine ⟨trivial,(callsIn_any (HGF.out _)).mono ?_⟩;rintro e w4 ⟨rfl,hb4⟩;have gG4:=cell_step gG3 hb4;have k4:=cell_of_one (blk_below HH.out.2.1 hb4);have m4:=free_of_one (blk_below HH.out.2.1 hb4);have HB4:=hid hb4;have hz4:=hb4.size;clear hb4))
       refine ⟨HH.out.2.2.2.2.2.2.2.trans ((protN_below HB4.out (by omega) (by omega)).trans (protN_put (ProtN.refl _ _ _ _ _) (by dsimp only;omega) (by dsimp only;omega) (by dsimp only;omega) _)),?_,?_,?_,(HH.out.2.2.2.2.2.1.step HB4.out).setCell (by dsimp only;omega) _,HNB.out⟩
       ·rw [heap_set_other (by omega)];exact blk_below HH.out.1 HB4.out
       ·rw [HSU2.out];exact heap_set_same (blk_below HH.out.2.1 HB4.out)
       ·rw [heap_set_other (by omega),e1.out];exact blk_below HH.out.2.2.1 HB4.out
      ·have HSU2:Hid (eAtF g L (k0+1)=eAtF g L k0):=by unfold Hid;rw [HSU.out,HGR.out];rfl
       gi_wp2_with (first
        |(refine ⟨trivial,(callsIn_any (HFR.out _ (HBEL.out.setCell (by dsimp only;omega) _))).mono ?_⟩;rintro e w3 ⟨rfl,hb3⟩;have HH:=hid (H3.out _ hb3);have gG3:=HH.out.2.2.2.2.1.grain;have k2':=cell_of_one HH.out.2.1;have m2':=free_of_one HH.out.2.1;have u0:=cell_blk (x:= .int .i64 6) (i:=0) HH.out.2.2.2.1 rfl;have u3:=cell_blk (x:= .int .i64 fr2) (i:=3) HH.out.2.2.2.1 rfl;have u4:=cell_blk (x:= .int .i64 till2) (i:=4) HH.out.2.2.2.1 rfl;have v2:=cell_blk (x:= .int .i64 g) (i:=2) HH.out.1 rfl;have hz3:=HH.out.2.2.2.2.2.2.1;clear hb3)
        |(refine ⟨trivial,(callsIn_any (HGF.out _)).mono ?_⟩;rintro e w4 ⟨rfl,hb4⟩;have HB4:=hid hb4;have hz4:=hb4.size;clear hb4))
       refine ⟨HH.out.2.2.2.2.2.2.2.trans (protN_below HB4.out (by omega) (by omega)),blk_below HH.out.1 HB4.out,?_,?_,(HH.out.2.2.2.2.2.1.step HB4.out),HNB.out⟩
       ·rw [HSU2.out];exact blk_below HH.out.2.1 HB4.out
       ·rw [e1.out];exact blk_below HH.out.2.2.1 HB4.out
     ·have hk6b:(k2==6)=false:=by simpa using hk6
      have HSU2:Hid (eAtF g L (k0+1)=eAtF g L k0):=by unfold Hid;rw [HSU.out,HGR.out,hk6b];rfl
      gi_wp2_with (refine ⟨trivial,(callsIn_any (HFR.out _ (HBEL.out.setCell (by dsimp only;omega) _))).mono ?_⟩;rintro e w3 ⟨rfl,hb3⟩;have HH:=hid (H3.out _ hb3);have gG3:=HH.out.2.2.2.2.1.grain;have k2':=cell_of_one HH.out.2.1;have m2':=free_of_one HH.out.2.1;have u0:=cell_blk (x:= .int .i64 k2) (i:=0) HH.out.2.2.2.1 rfl;have u3:=cell_blk (x:= .int .i64 fr2) (i:=3) HH.out.2.2.2.1 rfl;have u4:=cell_blk (x:= .int .i64 till2) (i:=4) HH.out.2.2.2.1 rfl;have v2:=cell_blk (x:= .int .i64 g) (i:=2) HH.out.1 rfl;have hz3:=HH.out.2.2.2.2.2.2.1;clear hb3)
      refine ⟨trivial,?_⟩
      gi_wp2
      refine ⟨HH.out.2.2.2.2.2.2.2,HH.out.1,?_,?_,HH.out.2.2.2.2.2.1,HNB.out⟩
      ·rw [HSU2.out];exact HH.out.2.1
      ·rw [e1.out];exact HH.out.2.2.1
def withinB (n a b:Int):Bool:=decide (a≤n∧n≤b)
theorem qwithin_any (n a b:Int) (w:World):Calls Tryz.prog 107 #[.int .i64 n,.int .i64 a,.int .i64 b] w fun e w'=>e= .returned (.bool (withinB n a b))∧w=w':=by
 unfold withinB
 by_cases h1:a≤n
 ·by_cases h2:n≤b
  ·go_enter Tryz.func107,Tryz.ntmps107
   go_wp2
   go_ret
   exact ⟨ret_bool (by simp [h1,h2]),rfl⟩
  ·go_enter Tryz.func107,Tryz.ntmps107
   go_wp2
   go_ret
   exact ⟨ret_bool (by simp [h1,h2]),rfl⟩
 ·go_enter Tryz.func107,Tryz.ntmps107
  go_wp2
  go_ret
  exact ⟨ret_bool (by first|(simp [h1];done)|(simp;omega)),rfl⟩
def lastAt (all l:List ByteArray):Nat→Int
 |0=> -1
 |k+1=>Lib.idxOfS all (l.getD k ByteArray.empty)
def inOrdB (l all:List ByteArray):Bool:=(List.range l.length).all fun i=>decide (lastAt all l i<lastAt all l (i+1))
theorem inOrdB_yes {l all:List ByteArray} (h:∀i,i<l.length→lastAt all l i<lastAt all l (i+1)):inOrdB l all=true:=by
 unfold inOrdB
 rw [List.all_eq_true]
 intro i hi
 exact decide_eq_true (h i (List.mem_range.1 hi))
theorem inOrdB_no {l all:List ByteArray} {k:Nat} (hk:k<l.length) (h:¬lastAt all l k<lastAt all l (k+1)):inOrdB l all=false:=by
 rw [Bool.eq_false_iff]
 intro h1
 unfold inOrdB at h1
 rw [List.all_eq_true] at h1
 exact h (of_decide_eq_true (h1 k (List.mem_range.2 hk)))
theorem lastAt_succ {l all:List ByteArray} {k:Nat} (hk:k<l.length):lastAt all l (k+1)=Lib.idxOfS all l[k]:=by
 show Lib.idxOfS all (l.getD k ByteArray.empty)=_
 rw [List.getD_eq_getElem?_getD,List.getElem?_eq_getElem hk]
 rfl
theorem inOrder_any (v u:Value) (l all:List ByteArray) (w:World) (hv:StrsSl w v l) (hu:StrsSl w u all) (hl:l.length≤1000000) (ha:all.length≤1000):
  Calls Tryz.prog 111 #[v,u] w fun e w'=>e= .returned (.bool (inOrdB l all))∧w=w':=by
 have HX:=hid (fun x=>index_any u all x w hu ha)
 obtain ⟨ao,cap,rfl,h1,h2,h3,hA⟩:=str_parts hv
 obtain ⟨bo,bcap,rfl,_,_,_⟩:=SlAt.shape hu
 have HA:=hid hA
 have HY:=hid (@inOrdB_yes l all);have HN:=hid (fun k hk=> @inOrdB_no l all k hk);have HS:=hid (fun k hk=> @lastAt_succ l all k hk)
 obtain ⟨L,hL⟩:∃L,l.length=L:=⟨_,rfl⟩
 have HL:=hid hL
 generalize all.length=m at*
 rw [hL] at h1 hl ⊢
 clear hA hv hu hL h3
 unfold maxLen at h2
 generalize inOrdB l all=r at*
 go_enter Tryz.func111,Tryz.ntmps111
 go_wp2
 go_loop [5,7,8,11] (fun la _ _ i=>∃k:Nat,k≤L∧i= .int .i64 k∧la= .int .i64 (lastAt all l k)∧∀i,i<k→lastAt all l i<lastAt all l (i+1)) (fun _ _ _ i=>L-(intOf i).toNat)
 case atStart=>exact ⟨0,Nat.zero_le _,rfl,rfl,fun i h=>absurd h (Nat.not_lt_zero i)⟩
 case round=>
  obtain ⟨k,hk,rfl,rfl,hall⟩:=hrel
  have HAll:=hid hall
  clear hall
  by_cases hlt:k<L
  ·have hlen:k<l.length:=by rw [HL.out];exact hlt
   obtain ⟨b,off,rfl,hc⟩:=HA.out (by omega)
   have c0:=hc k hlen
   have HK:=hid (HX.out l[k])
   rw [←HS.out k hlen] at HK
   clear hc
   generalize l[k]=x at*
   by_cases hle:lastAt all l k<lastAt all l (k+1)
   ·have HLE:=hid hle
    have hnle:¬lastAt all l (k+1)≤lastAt all l k:=by omega
    generalize hI:lastAt all l (k+1)=I at*
    have HI:=hid hI
    clear hI hle
    go_wp2_with (go_at_call 173;go_loud ((with_reducible refine (HK.out).mono ?_);rintro e w1 ⟨rfl,rfl⟩))
    go_round
    case rel=>exact ⟨k+1,hlt,by go_num,by rw [HI.out],fun i hi=>by
     by_cases h:i<k
     ·exact HAll.out i h
     ·obtain rfl:i=k:=by omega
      rw [HI.out]
      exact HLE.out⟩
    case measure=>simp [intOf];omega
   ·have HR:=hid (HN.out k hlen (by omega))
    have hle':lastAt all l (k+1)≤lastAt all l k:=by omega
    clear hle
    generalize lastAt all l (k+1)=I at*
    go_wp2_with (go_at_call 173;go_loud ((with_reducible refine (HK.out).mono ?_);rintro e w1 ⟨rfl,rfl⟩))
    go_ret
    exact ⟨ret_bool HR.out.symm,rfl⟩
  ·obtain rfl:k=L:=by omega
   have HR:=hid (HY.out (fun i hi=>HAll.out i (by rw [←HL.out];exact hi)))
   go_wp2
   go_ret
   exact ⟨ret_bool HR.out.symm,rfl⟩
def typedB (ds ms:List ByteArray) (g:Int) (a:AggD):Bool:=if a.kind=1 then a.metric.toList==[] else placeB (rightS ds ms g) (Lib.idxOfS ms a.metric)&&(decide (1<a.kind)&&decide (a.kind≤5))
set_option maxHeartbeats 1000000 in
theorem isTyped_any (vd vm:Value) (ds ms:List ByteArray) (g:Int) (a:AggD) (w:World) (hd:StrsSl w vd ds) (hm:StrsSl w vm ms) (td:Texts ds) (tm:Texts ms):
  Calls Tryz.prog 110 #[.agg #[vd,vm,.int .i64 g],.agg #[.int .i64 a.kind,.string a.metric]] w fun e w'=>e= .returned (.bool (typedB ds ms g a))∧Below w.heap.size w w':=by
 have HM:=hid (fun W (h:Below w.heap.size w W)=>metric_any vd vm ds ms g a.metric W (hd.below h) (hm.below h) td tm)
 obtain ⟨ad,cd,rfl,_,_,_⟩:=SlAt.shape hd
 obtain ⟨am,cm,rfl,_,_,_⟩:=SlAt.shape hm
 unfold typedB
 generalize placeI (rightS ds ms g) (Lib.idxOfS ms a.metric)=i at*
 generalize placeB (rightS ds ms g) (Lib.idxOfS ms a.metric)=b at*
 generalize a.kind=k at*;generalize a.metric=s at*
 generalize ds.length=nd at*;generalize ms.length=nm at*
 clear hd hm td tm
 by_cases h1:k=1
 ·subst h1
  rw [if_pos rfl]
  have hcase:s.toList=[]∨(s.toList==[])=false:=by
   by_cases h:s.toList=[]
   ·exact .inl h
   ·exact .inr (by simpa using h)
  rcases hcase with h|h
  ·have e1:(s.toList==[])=true:=by rw [h];rfl
   rw [e1]
   go_enter Tryz.func110,Tryz.ntmps110
   go_wp2_with (go_at_call 64;go_loud ((with_reducible refine (HM.out _ Gr).mono ?_);rintro e w1 ⟨rfl,hb1⟩;obtain ⟨hc1,hf1,hk1,hz1⟩:=bcell3 hb1;(try simp only [World.size_alloc,World.size_drew] at hz1)))
   go_ret
   exact ⟨rfl,Gr⟩
  ·rw [h]
   go_enter Tryz.func110,Tryz.ntmps110
   go_wp2_with (go_at_call 64;go_loud ((with_reducible refine (HM.out _ Gr).mono ?_);rintro e w1 ⟨rfl,hb1⟩;obtain ⟨hc1,hf1,hk1,hz1⟩:=bcell3 hb1;(try simp only [World.size_alloc,World.size_drew] at hz1)))
   go_ret
   exact ⟨rfl,Gr⟩
 ·rw [if_neg h1]
  have h1':(k==1)=false:=by simpa using h1
  cases b
  ·go_enter Tryz.func110,Tryz.ntmps110
   go_wp2_with (go_at_call 64;go_loud ((with_reducible refine (HM.out _ Gr).mono ?_);rintro e w1 ⟨rfl,hb1⟩;obtain ⟨hc1,hf1,hk1,hz1⟩:=bcell3 hb1;(try simp only [World.size_alloc,World.size_drew] at hz1)))
   go_ret
   exact ⟨rfl,Gr⟩
  ·by_cases h2:1<k
   ·by_cases h3:k≤5
    ·go_enter Tryz.func110,Tryz.ntmps110
     go_wp2_with (go_at_call 64;go_loud ((with_reducible refine (HM.out _ Gr).mono ?_);rintro e w1 ⟨rfl,hb1⟩;obtain ⟨hc1,hf1,hk1,hz1⟩:=bcell3 hb1;(try simp only [World.size_alloc,World.size_drew] at hz1)))
     go_ret
     exact ⟨ret_bool (by simp [h2,h3]),Gr⟩
    ·go_enter Tryz.func110,Tryz.ntmps110
     go_wp2_with (go_at_call 64;go_loud ((with_reducible refine (HM.out _ Gr).mono ?_);rintro e w1 ⟨rfl,hb1⟩;obtain ⟨hc1,hf1,hk1,hz1⟩:=bcell3 hb1;(try simp only [World.size_alloc,World.size_drew] at hz1)))
     go_ret
     exact ⟨ret_bool (by simp;omega),Gr⟩
   ·go_enter Tryz.func110,Tryz.ntmps110
    go_wp2_with (go_at_call 64;go_loud ((with_reducible refine (HM.out _ Gr).mono ?_);rintro e w1 ⟨rfl,hb1⟩;obtain ⟨hc1,hf1,hk1,hz1⟩:=bcell3 hb1;(try simp only [World.size_alloc,World.size_drew] at hz1)))
    go_ret
    exact ⟨ret_bool (by simp;omega),Gr⟩
theorem isOf1_any (b1:Nat) (vd vm:Value) (ds ms:List ByteArray) (g:Int) (a:AggD) (w:World) (hd:StrsSl w vd ds) (hm:StrsSl w vm ms) (td:Texts ds) (tm:Texts ms)
  (c0:w.cell? ⟨b1,0,none⟩=some vd) (c1:w.cell? ⟨b1,1,none⟩=some vm) (c2:w.cell? ⟨b1,2,none⟩=some (.int .i64 g)):
  Calls Tryz.prog 109 #[.agg #[.int .i64 a.kind,.string a.metric],.pointer (some ⟨b1,0,none⟩)] w fun e w'=>e= .returned (.bool (typedB ds ms g a))∧Below w.heap.size w w':=by
 have HT:=hid (fun W (h:Below w.heap.size w W)=>isTyped_any vd vm ds ms g a W (hd.below h) (hm.below h) td tm)
 obtain ⟨ad,cd,rfl,_,_,_⟩:=SlAt.shape hd
 obtain ⟨am,cm,rfl,_,_,_⟩:=SlAt.shape hm
 have hlt:=World.block_lt_of_cell? _ _ c0
 dsimp only at hlt
 generalize typedB ds ms g a=r at*
 generalize a.kind=k at*;generalize a.metric=s at*
 generalize ds.length=nd at*;generalize ms.length=nm at*
 clear hd hm td tm
 go_enter Tryz.func109,Tryz.ntmps109
 go_wp2_with (go_at_call 110;go_loud ((with_reducible refine (HT.out _ Gr).mono ?_);rintro e w1 ⟨rfl,hb1⟩))
 go_ret
 exact ⟨rfl,Gr⟩
theorem isOf2_any (b1:Nat) (vd vm:Value) (ds ms:List ByteArray) (g:Int) (x:ByteArray) (w:World) (hd:StrsSl w vd ds) (hm:StrsSl w vm ms) (td:Texts ds) (tm:Texts ms)
  (c0:w.cell? ⟨b1,0,none⟩=some vd) (c1:w.cell? ⟨b1,1,none⟩=some vm) (c2:w.cell? ⟨b1,2,none⟩=some (.int .i64 g)):
  Calls Tryz.prog 113 #[.string x,.pointer (some ⟨b1,0,none⟩)] w fun e w'=>e= .returned (.bool (placeB (rightS ds ms g) (Lib.idxOfS ds x)))∧Below w.heap.size w w':=by
 have HT:=hid (fun W (h:Below w.heap.size w W)=>dim_any vd vm ds ms g x W (hd.below h) (hm.below h) td tm)
 obtain ⟨ad,cd,rfl,_,_,_⟩:=SlAt.shape hd
 obtain ⟨am,cm,rfl,_,_,_⟩:=SlAt.shape hm
 have hlt:=World.block_lt_of_cell? _ _ c0
 dsimp only at hlt
 generalize placeI (rightS ds ms g) (Lib.idxOfS ds x)=i at*
 generalize placeB (rightS ds ms g) (Lib.idxOfS ds x)=b at*
 generalize ds.length=nd at*;generalize ms.length=nm at*
 clear hd hm td tm
 go_enter Tryz.func113,Tryz.ntmps113
 go_wp2_with (go_at_call 114;go_loud ((with_reducible refine (HT.out _ Gr).mono ?_);rintro e w1 ⟨rfl,hb1⟩))
 go_ret
 exact ⟨rfl,Gr⟩
theorem isOf3_any (b1:Nat) (u:Value) (all x:List ByteArray) (vx:Value) (w:World) (hx:StrsSl w vx x) (hu:StrsSl w u all) (hl:x.length≤1000000) (ha:all.length≤1000) (c1:w.cell? ⟨b1,1,none⟩=some u):
  Calls Tryz.prog 116 #[vx,.pointer (some ⟨b1,0,none⟩)] w fun e w'=>e= .returned (.bool (inOrdB x all))∧Below w.heap.size w w':=by
 have HT:=hid (inOrder_any vx u x all w hx hu hl ha)
 obtain ⟨ad,cd,rfl,_,_,_⟩:=SlAt.shape hx
 obtain ⟨am,cm,rfl,_,_,_⟩:=SlAt.shape hu
 have hlt:=World.block_lt_of_cell? _ _ c1
 dsimp only at hlt
 generalize inOrdB x all=r at*
 generalize x.length=nx at*;generalize all.length=na at*
 clear hx hu
 go_enter Tryz.func116,Tryz.ntmps116
 go_wp2_with (go_at_call 111;go_loud ((with_reducible refine (HT.out).mono ?_);rintro e w1 ⟨rfl,rfl⟩))
 go_ret
 exact ⟨rfl,Gr⟩
def condOkB (n:Nat) (c:CondD):Bool:=withinB c.pos 0 ((n:Int)-1)&&withinB c.op 1 6
theorem isOf4_any (b1 n:Nat) (ao:Option Addr) (cap:Nat) (c:CondD) (w:World) (hn:n≤1000000) (c0:w.cell? ⟨b1,0,none⟩=some (.slice ao n cap)):
  Calls Tryz.prog 118 #[.agg #[.int .i64 c.pos,.int .i64 c.op,.int .i64 c.n],.pointer (some ⟨b1,0,none⟩)] w fun e w'=>e= .returned (.bool (condOkB n c))∧Below w.heap.size w w':=by
 have H1:=hid (fun W=>qwithin_any c.pos 0 ((n:Int)-1) W)
 have H2:=hid (fun W=>qwithin_any c.op 1 6 W)
 unfold condOkB
 have hlt:=World.block_lt_of_cell? _ _ c0
 dsimp only at hlt
 generalize withinB c.pos 0 ((n:Int)-1)=r1 at*;generalize withinB c.op 1 6=r2 at*
 obtain ⟨pos,op,num⟩:=c
 dsimp only at*
 cases r1
 ·go_enter Tryz.func118,Tryz.ntmps118
  go_wp2_with (go_at_call 107;go_loud (first|((with_reducible refine (H1.out _).mono ?_);rintro e w1 ⟨rfl,rfl⟩)|((with_reducible refine (H2.out _).mono ?_);rintro e w1 ⟨rfl,rfl⟩)))
  go_ret
  exact ⟨rfl,Gr⟩
 ·go_enter Tryz.func118,Tryz.ntmps118
  go_wp2_with (go_at_call 107;go_loud (first|((with_reducible refine (H1.out _).mono ?_);rintro e w1 ⟨rfl,rfl⟩)|((with_reducible refine (H2.out _).mono ?_);rintro e w1 ⟨rfl,rfl⟩)))
  go_ret
  exact ⟨rfl,Gr⟩
def keyOkB (n m:Nat) (k:KeyD):Bool:=if k.agg then withinB k.pos 0 ((n:Int)-1) else withinB k.pos 0 ((m:Int)-1)
set_option maxHeartbeats 1000000 in
theorem isOf5_any (b1 n m:Nat) (ao bo:Option Addr) (cap bcap:Nat) (k:KeyD) (w:World) (hn:n≤1000000) (hm:m≤1000000) (c0:w.cell? ⟨b1,0,none⟩=some (.slice ao n cap)) (c1:w.cell? ⟨b1,1,none⟩=some (.slice bo m bcap)):
  Calls Tryz.prog 120 #[.agg #[.bool k.agg,.int .i64 k.pos,.bool k.desc],.pointer (some ⟨b1,0,none⟩)] w fun e w'=>e= .returned (.bool (keyOkB n m k))∧Below w.heap.size w w':=by
 have H1:=hid (fun W=>qwithin_any k.pos 0 ((n:Int)-1) W)
 have H2:=hid (fun W=>qwithin_any k.pos 0 ((m:Int)-1) W)
 unfold keyOkB
 have hlt:=World.block_lt_of_cell? _ _ c0
 dsimp only at hlt
 generalize withinB k.pos 0 ((n:Int)-1)=r1 at*;generalize withinB k.pos 0 ((m:Int)-1)=r2 at*
 obtain ⟨agg,pos,desc⟩:=k
 dsimp only at*
 cases agg
 ·rw [if_neg (by simp)]
  clear H1
  cases r1
  all_goals
   go_enter Tryz.func120,Tryz.ntmps120
   go_wp2_with (go_at_call 107;go_loud ((with_reducible refine (H2.out _).mono ?_);rintro e w1 ⟨rfl,rfl⟩))
   go_ret
   exact ⟨rfl,Gr⟩
 ·rw [if_pos rfl]
  clear H2
  cases r1
  all_goals
   go_enter Tryz.func120,Tryz.ntmps120
   go_wp2_with (go_at_call 107;go_loud ((with_reducible refine (H1.out _).mono ?_);rintro e w1 ⟨rfl,rfl⟩))
   go_ret
   exact ⟨rfl,Gr⟩
def mostSets (mode:Int):Int:=if mode=4 then 8 else 0
def leastSets (mode:Int):Int:=if mode=4 then 1 else 0
def sizesB (d:QryD):Bool:=withinB d.aggs.length 1 6&&(decide (d.by_.length≤6)&&(withinB d.mode 1 4&&(withinB d.sets.length (leastSets d.mode) (mostSets d.mode)&&(decide (d.having.length≤4)&&(decide (d.order.length≤4)&&withinB d.limit 0 1000)))))
def isOfB (ds ms:List ByteArray) (g:Int) (d:QryD):Bool:=
 sizesB d&&(d.aggs.all (typedB ds ms g)&&(inOrdB d.by_ d.by_&&(d.by_.all (fun x=>placeB (rightS ds ms g) (Lib.idxOfS ds x))&&(d.sets.all (fun l=>inOrdB l d.by_)&&(d.having.all (condOkB d.aggs.length)&&d.order.all (keyOkB d.aggs.length d.by_.length))))))
structure QSm (d:QryD):Prop where
 aggs:d.aggs.length≤1000
 by_:d.by_.length≤1000
 sets:d.sets.length≤1000∧∀l∈d.sets,l.length≤1000
 having:d.having.length≤1000
 order:d.order.length≤1000
def IsOfPost (r:Bool) (w:World) (e:Ending) (w':World):Prop:=e= .returned (.bool r)∧Below w.heap.size w w'
set_option maxHeartbeats 4000000 in
theorem isOf_any (q:QryV) (d:QryD) (vd vm:Value) (ds ms:List ByteArray) (g:Int) (w:World) (hd:StrsSl w vd ds) (hm:StrsSl w vm ms) (td:Texts ds) (tm:Texts ms) (hq:QryIs w q d) (hs:QSm d):
  Calls Tryz.prog 56 #[.agg #[vd,vm,.int .i64 g],.agg q.cells] w (IsOfPost (isOfB ds ms g d) w):=by
 have hmode:=hq.mode;have hlim:=hq.limit
 obtain ⟨la0,la1,la2,la3,_⟩:=SlAt.parts hq.aggs
 obtain ⟨lb0,lb1,lb2,lb3,_⟩:=SlAt.parts hq.by_
 obtain ⟨vs,hvl,hvs,hvr⟩:=hq.sets
 obtain ⟨ls0,ls1,ls2,ls3,_⟩:=SlAt.parts hvs
 obtain ⟨lh0,lh1,lh2,lh3,_⟩:=SlAt.parts hq.having
 obtain ⟨lo0,lo1,lo2,lo3,_⟩:=SlAt.parts hq.order
 have hsets:SetsSl w (.slice q.sa q.sn q.sc) d.sets:=⟨vs,hvl,hvs,hvr⟩
 obtain ⟨X,hX⟩:∃X,(w.alloc (.cells #[vd,vm,.int .i64 g] 45)).alloc (.cells q.cells 33)=X:=⟨_,rfl⟩
 have hB:Below w.heap.size w X:=by rw [←hX];exact Gr
 have s0:X.cell? ⟨w.heap.size,0,none⟩=some vd:=by subst hX;go_simp
 have s1:X.cell? ⟨w.heap.size,1,none⟩=some vm:=by subst hX;go_simp
 have s2:X.cell? ⟨w.heap.size,2,none⟩=some (.int .i64 g):=by subst hX;go_simp
 have hbq:X.heap[w.heap.size+1]? =some (.cells q.cells 33 (0,0)):=by subst hX;exact Bk
 have q0:X.cell? ⟨w.heap.size+1,0,none⟩=some (.slice q.aa q.an q.ac):=cell_blk hbq rfl
 have q1:X.cell? ⟨w.heap.size+1,1,none⟩=some (.slice q.ba q.bn q.bc):=cell_blk hbq rfl
 have A1:=hid (fun W (h:Below X.heap.size X W)=>agg_all w.heap.size _ d.aggs (typedB ds ms g) W (SlAt.below hq.aggs (hB.step h)) (by have:=hs.aggs;omega) (fun x W2 _ h2=>isOf1_any w.heap.size vd vm ds ms g x W2 (hd.below ((hB.step h).step h2)) (hm.below ((hB.step h).step h2)) td tm (cell_step (cell_step s0 h) h2) (cell_step (cell_step s1 h) h2) (cell_step (cell_step s2 h) h2)))
 have A2:=hid (fun W (h:Below X.heap.size X W)=>inOrder_any _ _ d.by_ d.by_ W (hq.by_.below (hB.step h)) (hq.by_.below (hB.step h)) (by have:=hs.by_;omega) hs.by_)
 have A3:=hid (fun W (h:Below X.heap.size X W)=>str_all w.heap.size _ d.by_ (fun x=>placeB (rightS ds ms g) (Lib.idxOfS ds x)) W (SlAt.below hq.by_ (hB.step h)) (by have:=hs.by_;omega) (fun x W2 _ h2=>isOf2_any w.heap.size vd vm ds ms g x W2 (hd.below ((hB.step h).step h2)) (hm.below ((hB.step h).step h2)) td tm (cell_step (cell_step s0 h) h2) (cell_step (cell_step s1 h) h2) (cell_step (cell_step s2 h) h2)))
 have A4:=hid (fun W (h:Below X.heap.size X W)=>set_all (w.heap.size+1) _ d.sets (fun l=>inOrdB l d.by_) W (hsets.below (hB.step h)) (by have:=hs.sets.1;omega) (fun x vx W2 hx gx h2=>isOf3_any (w.heap.size+1) _ d.by_ x vx W2 gx (hq.by_.below ((hB.step h).step h2)) (by have:=hs.sets.2 x hx;omega) hs.by_ (cell_step (cell_step q1 h) h2)))
 have A5:=hid (fun W (h:Below X.heap.size X W)=>cond_all (w.heap.size+1) _ d.having (condOkB d.aggs.length) W (SlAt.below hq.having (hB.step h)) (by have:=hs.having;omega) (fun x W2 _ h2=>isOf4_any (w.heap.size+1) d.aggs.length q.aa q.ac x W2 (by have:=hs.aggs;omega) (by rw [←la0];exact cell_step (cell_step q0 h) h2)))
 have A6:=hid (fun W (h:Below X.heap.size X W)=>key_all (w.heap.size+1) _ d.order (keyOkB d.aggs.length d.by_.length) W (SlAt.below hq.order (hB.step h)) (by have:=hs.order;omega) (fun x W2 _ h2=>isOf5_any (w.heap.size+1) d.aggs.length d.by_.length q.aa q.ba q.ac q.bc x W2 (by have:=hs.aggs;omega) (by have:=hs.by_;omega) (by rw [←la0];exact cell_step (cell_step q0 h) h2) (by rw [←lb0];exact cell_step (cell_step q1 h) h2)))
 have W1:=hid (fun W=>qwithin_any (d.aggs.length:Int) 1 6 W)
 have W2:=hid (fun W=>qwithin_any d.mode 1 4 W)
 have W3:=hid (fun W=>qwithin_any (d.sets.length:Int) (leastSets d.mode) (mostSets d.mode) W)
 have W4:=hid (fun W=>qwithin_any d.limit 0 1000 W)
 have hs1:=hs.aggs;have hs2:=hs.by_;have hs3:=hs.sets.1;have hs4:=hs.having;have hs5:=hs.order
 unfold isOfB sizesB
 rw [←hmode,←hlim,←la0,←lb0,←ls0,←lh0,←lo0]
 rw [←la0] at A5 A6 W1 la1 hs1;rw [←lb0] at A6 lb1 hs2;rw [←ls0] at W3 ls1 hs3;rw [←lh0] at lh1 hs4;rw [←lo0] at lo1 hs5;rw [←hmode] at W2 W3;rw [←hlim] at W4
 obtain ⟨aa,LA,ac,ba,LB,bc,mode,sa,LS,sc,every,kind,name,wa,wn,wk,fr,till,la,ln,lc,ha,LH,hc,oa,LO,oc,limit⟩:=q
 obtain ⟨ad,cd,rfl,_,_,_⟩:=SlAt.shape hd
 obtain ⟨am,cm,rfl,_,_,_⟩:=SlAt.shape hm
 dsimp only [QryV.cells] at*
 generalize d.aggs.all (typedB ds ms g)=r1 at*
 generalize inOrdB d.by_ d.by_=r2 at*
 generalize d.by_.all (fun x=>placeB (rightS ds ms g) (Lib.idxOfS ds x))=r3 at*
 generalize d.sets.all (fun l=>inOrdB l d.by_)=r4 at*
 generalize d.having.all (condOkB LA)=r5 at*
 generalize d.order.all (keyOkB LA LB)=r6 at*
 generalize withinB LA 1 6=t1 at*
 generalize withinB mode 1 4=t2 at*
 generalize withinB LS (leastSets mode) (mostSets mode)=t3 at*
 generalize withinB limit 0 1000=t4 at*
 generalize ds.length=nd at*;generalize ms.length=nm at*
 have hbz:Hid (∀Y,Below X.heap.size X Y→Below w.heap.size w Y):=fun Y h=>hB.step h
 clear hd hm td tm hq hs hvl hvs hvr hsets s0 s1 s2 q0 q1 hbq hmode hlim la0 lb0 ls0 lh0 lo0 la3 lb3 ls3 lh3 lo3 la2 lb2 ls2 lh2 lo2 hB
 subst hX
 have hcase:(mode=4∧leastSets mode=1∧mostSets mode=8)∨((mode==4)=false∧leastSets mode=0∧mostSets mode=0):=by
  unfold leastSets mostSets
  by_cases h:mode=4
  ·exact .inl ⟨h,by rw [if_pos h],by rw [if_pos h]⟩
  ·exact .inr ⟨by simpa using h,by rw [if_neg h],by rw [if_neg h]⟩
 rcases hcase with ⟨rfl,e1,e2⟩|⟨hm4,e1,e2⟩
 all_goals
  rw [e1,e2] at W3
  clear e1 e2
  go_enter Tryz.func56,Tryz.ntmps56
  go_wp2_with (first
   |(go_at_call 107;go_loud (first|((with_reducible refine (W1.out _).mono ?_);rintro e y1 ⟨rfl,rfl⟩)|((with_reducible refine (W2.out _).mono ?_);rintro e y1 ⟨rfl,rfl⟩)|((with_reducible refine (W3.out _).mono ?_);rintro e y1 ⟨rfl,rfl⟩)|((with_reducible refine (W4.out _).mono ?_);rintro e y1 ⟨rfl,rfl⟩)))
   |(go_at_call 108;go_loud ((with_reducible refine (A1.out _ Gr).mono ?_);rintro e z1 ⟨rfl,hb1⟩;obtain ⟨hc1,hf1,hk1,hz1⟩:=bcell3 hb1;(try simp only [World.size_alloc,World.size_drew] at hz1);have:w.heap.size<z1.heap.size:=(by omega);have:w.heap.size+1<z1.heap.size:=(by omega)))
   |(go_at_call 111;go_loud ((with_reducible refine (A2.out _ Gr).mono ?_);rintro e y1 ⟨rfl,rfl⟩))
   |(go_at_call 112;go_loud ((with_reducible refine (A3.out _ Gr).mono ?_);rintro e z3 ⟨rfl,hb3⟩;obtain ⟨hc3,hf3,hk3,hz3⟩:=bcell3 hb3;(try simp only [World.size_alloc,World.size_drew] at hz3);have:w.heap.size<z3.heap.size:=(by omega);have:w.heap.size+1<z3.heap.size:=(by omega)))
   |(go_at_call 115;go_loud ((with_reducible refine (A4.out _ Gr).mono ?_);rintro e z4 ⟨rfl,hb4⟩;obtain ⟨hc4,hf4,hk4,hz4⟩:=bcell3 hb4;(try simp only [World.size_alloc,World.size_drew] at hz4);have:w.heap.size<z4.heap.size:=(by omega);have:w.heap.size+1<z4.heap.size:=(by omega)))
   |(go_at_call 117;go_loud ((with_reducible refine (A5.out _ Gr).mono ?_);rintro e z5 ⟨rfl,hb5⟩;obtain ⟨hc5,hf5,hk5,hz5⟩:=bcell3 hb5;(try simp only [World.size_alloc,World.size_drew] at hz5);have:w.heap.size<z5.heap.size:=(by omega);have:w.heap.size+1<z5.heap.size:=(by omega)))
   |(go_at_call 119;go_loud ((with_reducible refine (A6.out _ Gr).mono ?_);rintro e z6 ⟨rfl,hb6⟩;obtain ⟨hc6,hf6,hk6,hz6⟩:=bcell3 hb6;(try simp only [World.size_alloc,World.size_drew] at hz6);have:w.heap.size<z6.heap.size:=(by omega);have:w.heap.size+1<z6.heap.size:=(by omega))))
  all_goals
   go_ret
   exact ⟨ret_bool (by first|(simp_all;done)|(simp_all;omega)|(simp_all;intros;omega)),hbz.out _ Gr⟩
def checkFil (ds ms:List ByteArray) (g:Int) (L:List (Nat×FilD)):Nat:=if rightS ds ms g=true then resF ds ms g L else 100
theorem resF_is (ds ms:List ByteArray) (g:Int) (L:List (Nat×FilD)):resF ds ms g L=0∨resF ds ms g L=110∨resF ds ms g L=140:=by
 unfold resF
 split
 ·exact .inr (.inr rfl)
 ·rcases eAtF_is g L L.length with h|h
  ·exact .inl h
  ·exact .inr (.inl h)
def IntPost (r:Int) (w:World) (e:Ending) (w':World):Prop:=e= .returned (.int .i64 r)∧Below w.heap.size w w'
theorem fcheck_any (S:Nat→Prop) (D:Nat) (cs:List Value) (f:FilD) (vd vm:Value) (ds ms:List ByteArray) (g:Int) (am an:Addr) (w:World) (hd:StrsSl w vd ds) (hm:StrsSl w vm ms) (td:Texts ds) (tm:Texts ms)
  (hf:FilS S w D cs f) (hD:D≤900) (hsm:∀p∈flatN D 1 f,KindsN 1 p.2∧p.2.words.length≤1000000) (hS:SentF am an w):
  Calls Tryz.prog 58 #[.agg #[vd,vm,.int .i64 g],.agg cs.toArray] w (IntPost (checkFil ds ms g (flatN D 1 f):Nat) w):=by
 have HR:=hid (fun W (h:Below w.heap.size w W)=>right_any vd vm ds ms g W (hd.below h) (hm.below h) td tm)
 have HC:=hid (fun W (h:Below w.heap.size w W)=>checked_any S D cs f vd vm ds ms g am an W (hd.below h) (hm.below h) td tm (hf.below h) hD hsm (hS.below h))
 have HT:=hid (fun c hc W (h:Below w.heap.size w W)=>ftold_any am an c hc W (hS.below h))
 have HI:=hid (resF_is ds ms g (flatN D 1 f))
 unfold checkFil
 generalize resF ds ms g (flatN D 1 f)=r at*
 generalize rightS ds ms g=b at*
 obtain ⟨k,nm,aw,lw,cw,fr,till,al,ll,cl,rfl⟩:=hf.six
 obtain ⟨ad,cd,rfl,_,_,_⟩:=SlAt.shape hd
 obtain ⟨am',cm,rfl,_,_,_⟩:=SlAt.shape hm
 generalize ds.length=nd at*;generalize ms.length=nm' at*
 clear hd hm td tm hf hsm hS
 cases b
 ·rw [if_neg (by simp)]
  go_enter Tryz.func58,Tryz.ntmps58
  go_wp2_with (go_at_call 55;go_loud ((with_reducible refine (HR.out _ Gr).mono ?_);rintro e w1 ⟨rfl,hb1⟩))
  go_ret
  exact ⟨rfl,Gr⟩
 ·rw [if_pos rfl]
  go_enter Tryz.func58,Tryz.ntmps58
  go_wp2_with (first
   |(go_at_call 55;go_loud ((with_reducible refine (HR.out _ Gr).mono ?_);rintro e w1 ⟨rfl,hb1⟩;obtain ⟨hc1,hf1,hk1,hz1⟩:=bcell3 hb1;(try simp only [World.size_alloc,World.size_drew] at hz1);have:w.heap.size<w1.heap.size:=(by omega);have:w.heap.size+1<w1.heap.size:=(by omega)))
   |(go_at_call 123;go_loud ((with_reducible refine (HC.out _ Gr).mono ?_);rintro e w2 ⟨rfl,hb2⟩))
   |(go_at_call 122;go_loud ((with_reducible refine (HT.out _ HI.out _ Gr).mono ?_);rintro e w3 ⟨rfl,rfl⟩)))
  go_ret
  exact ⟨rfl,Gr⟩
def checkQ (ds ms:List ByteArray) (g:Int) (d:QryD) (L:List (Nat×FilD)):Nat:=
 if rightS ds ms g=true then (if isOfB ds ms g d=true then (if (d.every !=0&& !gCoarserB g d.every)=true then 110 else checkFil ds ms g L) else 152) else 100
def FilSm (D:Nat) (f:FilD):Prop:=D≤900∧∀p∈flatN D 1 f,KindsN 1 p.2∧p.2.words.length≤1000000
set_option maxHeartbeats 4000000 in
theorem qcheck_any (S:Nat→Prop) (D:Nat) (q:QryV) (d:QryD) (vd vm:Value) (ds ms:List ByteArray) (g:Int) (am an:Addr) (w:World) (hd:StrsSl w vd ds) (hm:StrsSl w vm ms) (td:Texts ds) (tm:Texts ms)
  (hq:QryIs w q d) (hs:QSm d) (hf:FilS S w D [.int .i64 q.kind,.string q.name,.slice q.wa q.wn q.wc,.int .i64 q.fr,.int .i64 q.till,.slice q.la q.ln q.lc] d.wher) (hsm:FilSm D d.wher) (hS:SentF am an w):
  Calls Tryz.prog 27 #[.agg #[vd,vm,.int .i64 g],.agg q.cells] w (IntPost (checkQ ds ms g d (flatN D 1 d.wher):Nat) w):=by
 have HR:=hid (fun W (h:Below w.heap.size w W)=>right_any vd vm ds ms g W (hd.below h) (hm.below h) td tm)
 have HO:=hid (fun W (h:Below w.heap.size w W)=>isOf_any q d vd vm ds ms g W (hd.below h) (hm.below h) td tm (hq.all.below h).is hs)
 have HC:=hid (fun W=>gCoarser_any g q.every W)
 have HF:=hid (fun W (h:Below w.heap.size w W)=>fcheck_any S D _ d.wher vd vm ds ms g am an W (hd.below h) (hm.below h) td tm (hf.below h) hsm.1 hsm.2 (hS.below h))
 unfold checkQ
 rw [←hq.every]
 generalize checkFil ds ms g (flatN D 1 d.wher)=r at*
 generalize rightS ds ms g=b at*
 generalize isOfB ds ms g d=b2 at*
 obtain ⟨ad,cd,rfl,_,_,_⟩:=SlAt.shape hd
 obtain ⟨am',cm,rfl,_,_,_⟩:=SlAt.shape hm
 generalize ds.length=nd at*;generalize ms.length=nm' at*
 clear hd hm td tm hf hsm hS hq hs
 obtain ⟨aa,LA,ac,ba,LB,bc,mode,sa,LS,sc,every,kind,name,wa,wn,wk,fr,till,la,ln,lc,ha,LH,hc,oa,LO,oc,limit⟩:=q
 dsimp only [QryV.cells] at*
 generalize gCoarserB g every=co at*
 have hev:every=0∨(every !=0)=true:=by
  by_cases h:every=0
  ·exact .inl h
  ·exact .inr (by simpa using h)
 cases b
 ·rw [if_neg (by simp)]
  go_enter Tryz.func27,Tryz.ntmps27
  go_wp2_with (go_at_call 55;go_loud ((with_reducible refine (HR.out _ Gr).mono ?_);rintro e w1 ⟨rfl,hb1⟩))
  go_ret
  exact ⟨rfl,Gr⟩
 ·rw [if_pos rfl]
  cases b2
  ·rw [if_neg (by simp)]
   go_enter Tryz.func27,Tryz.ntmps27
   go_wp2_with (first
    |(go_at_call 55;go_loud ((with_reducible refine (HR.out _ Gr).mono ?_);rintro e w1 ⟨rfl,hb1⟩;obtain ⟨hc1,hf1,hk1,hz1⟩:=bcell3 hb1;(try simp only [World.size_alloc,World.size_drew] at hz1);have:w.heap.size<w1.heap.size:=(by omega);have:w.heap.size+1<w1.heap.size:=(by omega)))
    |(go_at_call 56;go_loud ((with_reducible refine (HO.out _ Gr).mono ?_);rintro e w2 ⟨rfl,hb2⟩)))
   go_ret
   exact ⟨rfl,Gr⟩
  ·rw [if_pos rfl]
   rcases hev with rfl|hev
   ·rw [if_neg (by simp)]
    go_enter Tryz.func27,Tryz.ntmps27
    go_wp2_with (first
     |(go_at_call 55;go_loud ((with_reducible refine (HR.out _ Gr).mono ?_);rintro e w1 ⟨rfl,hb1⟩;obtain ⟨hc1,hf1,hk1,hz1⟩:=bcell3 hb1;(try simp only [World.size_alloc,World.size_drew] at hz1);have:w.heap.size<w1.heap.size:=(by omega);have:w.heap.size+1<w1.heap.size:=(by omega)))
     |(go_at_call 56;go_loud ((with_reducible refine (HO.out _ Gr).mono ?_);rintro e w2 ⟨rfl,hb2⟩;obtain ⟨hc2,hf2,hk2,hz2⟩:=bcell3 hb2;(try simp only [World.size_alloc,World.size_drew] at hz2);have:w.heap.size<w2.heap.size:=(by omega);have:w.heap.size+1<w2.heap.size:=(by omega)))
     |(go_at_call 58;go_loud ((with_reducible refine (HF.out _ Gr).mono ?_);rintro e w3 ⟨rfl,hb3⟩)))
    go_ret
    exact ⟨rfl,Gr⟩
   ·cases co
    ·rw [if_pos (by rw [hev];rfl)]
     have hne:(every==0)=false:=by simpa using hev
     go_enter Tryz.func27,Tryz.ntmps27
     go_wp2_with (first
      |(go_at_call 55;go_loud ((with_reducible refine (HR.out _ Gr).mono ?_);rintro e w1 ⟨rfl,hb1⟩;obtain ⟨hc1,hf1,hk1,hz1⟩:=bcell3 hb1;(try simp only [World.size_alloc,World.size_drew] at hz1);have:w.heap.size<w1.heap.size:=(by omega);have:w.heap.size+1<w1.heap.size:=(by omega)))
      |(go_at_call 56;go_loud ((with_reducible refine (HO.out _ Gr).mono ?_);rintro e w2 ⟨rfl,hb2⟩;obtain ⟨hc2,hf2,hk2,hz2⟩:=bcell3 hb2;(try simp only [World.size_alloc,World.size_drew] at hz2);have:w.heap.size<w2.heap.size:=(by omega);have:w.heap.size+1<w2.heap.size:=(by omega)))
      |(go_at_call 57;go_loud ((with_reducible refine (HC.out _).mono ?_);rintro e w3 ⟨rfl,hb3⟩)))
     go_ret
     exact ⟨rfl,Gr⟩
    ·rw [if_neg (by rw [hev];simp)]
     have hne:(every==0)=false:=by simpa using hev
     go_enter Tryz.func27,Tryz.ntmps27
     go_wp2_with (first
      |(go_at_call 55;go_loud ((with_reducible refine (HR.out _ Gr).mono ?_);rintro e w1 ⟨rfl,hb1⟩;obtain ⟨hc1,hf1,hk1,hz1⟩:=bcell3 hb1;(try simp only [World.size_alloc,World.size_drew] at hz1);have:w.heap.size<w1.heap.size:=(by omega);have:w.heap.size+1<w1.heap.size:=(by omega)))
      |(go_at_call 56;go_loud ((with_reducible refine (HO.out _ Gr).mono ?_);rintro e w2 ⟨rfl,hb2⟩;obtain ⟨hc2,hf2,hk2,hz2⟩:=bcell3 hb2;(try simp only [World.size_alloc,World.size_drew] at hz2);have:w.heap.size<w2.heap.size:=(by omega);have:w.heap.size+1<w2.heap.size:=(by omega)))
      |(go_at_call 57;go_loud ((with_reducible refine (HC.out _).mono ?_);rintro e w3 ⟨rfl,hb3⟩;obtain ⟨hc3,hf3,hk3,hz3⟩:=bcell3 hb3;(try simp only [World.size_alloc,World.size_drew] at hz3);have:w.heap.size<w3.heap.size:=(by omega);have:w.heap.size+1<w3.heap.size:=(by omega)))
      |(go_at_call 58;go_loud ((with_reducible refine (HF.out _ Gr).mono ?_);rintro e w4 ⟨rfl,hb4⟩)))
     go_ret
     exact ⟨rfl,Gr⟩
end Go.Proofs.YtejleplhmkmegaaGreatDoor
