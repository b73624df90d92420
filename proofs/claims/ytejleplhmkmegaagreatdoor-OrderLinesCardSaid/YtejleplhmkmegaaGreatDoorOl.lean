/- Texts joined: OrS. -/
import Derived.Test.YtejleplhmkmegaaGreatDoorOe
import Derived.Maps.Own
import Derived.Maps.OwnOps
set_option linter.unusedVariables false
set_option linter.unusedSimpArgs false
namespace Go.Proofs.YtejleplhmkmegaaGreatDoor
set_option maxRecDepth 100000
open Go.ChangeShapes Go.WideShapes Go.ChangeAt Go.RowKit Go.Fl Go.ChangeMaps Go.MapKept
open Go.Maps (Keyed)
attribute [local go_sem] ord_lt ord_eq ord_gt ord_ne
def heldR (v:Value):Option (DataW Value×List MemPlace):=some (.held v,[])
theorem held_look {P:Program} {k t e:TypeId} {w:World} {b n:Nat} {D:DataW Value} (h:w.ownsMap P k heldR b n D) (K:Keyed P k) (ht:P.underlying t=some (.map k e)) {z:Value} (hz:(zeroValue e).run P w= .ok z w)
  {key:Value} {kl:Lit} (hkey:keyOf P k key=some kl):
  ∃v ok,(Instr.lookup t (.map (some b)) key true).run P w= .ok (.tuple #[v,.bool ok]) w∧((ok=true∧∀zd,D.atKey kl zd= .held v)∨(ok=false∧v=z∧∀zd,D.atKey kl zd=zd)):=by
 obtain ⟨es,clock,hb,F,_,hD⟩:=h
 rcases Maps.fit_look true K ht hz hb F hkey with ⟨hrun,_,hat⟩|⟨e0,y,_,_,hrun,hRv,hat,_⟩
 ·exact ⟨z,false,hrun,.inr ⟨rfl,rfl,fun zd=>by rw [hD];exact hat zd⟩⟩
 ·refine ⟨e0.val,true,hrun,.inl ⟨rfl,fun zd=> ?_⟩⟩
  rw [hD,hat zd]
  unfold heldR at hRv
  rw [←Option.some.inj hRv]
theorem held_at {P:Program} {k t e:TypeId} {w:World} {b n:Nat} {D:DataW Value} (h:w.ownsMap P k heldR b n D) (K:Keyed P k) (ht:P.underlying t=some (.map k e)) {z:Value} (hz:(zeroValue e).run P w= .ok z w)
  {key:Value} {kl:Lit} (hkey:keyOf P k key=some kl):
  ∃v,(Instr.lookup t (.map (some b)) key false).run P w= .ok v w∧((∀zd,D.atKey kl zd= .held v)∨(v=z∧∀zd,D.atKey kl zd=zd)):=by
 obtain ⟨es,clock,hb,F,_,hD⟩:=h
 rcases Maps.fit_look false K ht hz hb F hkey with ⟨hrun,_,hat⟩|⟨e0,y,_,_,hrun,hRv,hat,_⟩
 ·exact ⟨z,hrun,.inr ⟨rfl,fun zd=>by rw [hD];exact hat zd⟩⟩
 ·refine ⟨e0.val,hrun,.inl fun zd=> ?_⟩
  rw [hD,hat zd]
  unfold heldR at hRv
  rw [←Option.some.inj hRv]
def litI (n:Int):Lit:= .int .i64 n
def fnV (g:Nat):Value:= .func (.func g) #[] #[]
def condB (op k:Int):Bool:=if op=1 then k==0 else if op=2 then k !=0 else if op=3 then decide (k<0) else if op=4 then decide (k≤0) else if op=5 then decide (0<k) else if op=6 then decide (0≤k) else false
def holdsB (op n:Int) (v:NumD):Bool:=condB op (cmpN v ⟨n,false,0⟩)
theorem cond1_any (k:Int) (w:World):Calls Tryz.prog 38 #[.int .i64 k] w fun e w'=>e= .returned (.bool (k==0))∧w'=w:=by
 go_enter Tryz.func38,Tryz.ntmps38
 go_wp2
 all_goals (go_ret;first|exact ⟨by simp_all,rfl⟩|exact ⟨rfl,rfl⟩)
theorem cond2_any (k:Int) (w:World):Calls Tryz.prog 39 #[.int .i64 k] w fun e w'=>e= .returned (.bool (k !=0))∧w'=w:=by
 go_enter Tryz.func39,Tryz.ntmps39
 go_wp2
 all_goals (go_ret;first|exact ⟨by simp_all,rfl⟩|exact ⟨rfl,rfl⟩)
theorem cond3_any (k:Int) (w:World):Calls Tryz.prog 40 #[.int .i64 k] w fun e w'=>e= .returned (.bool (decide (k<0)))∧w'=w:=by
 go_enter Tryz.func40,Tryz.ntmps40
 go_wp2
 all_goals (go_ret;first|exact ⟨by simp_all,rfl⟩|exact ⟨rfl,rfl⟩)
theorem cond4_any (k:Int) (w:World):Calls Tryz.prog 41 #[.int .i64 k] w fun e w'=>e= .returned (.bool (decide (k≤0)))∧w'=w:=by
 go_enter Tryz.func41,Tryz.ntmps41
 go_wp2
 all_goals (go_ret;first|exact ⟨by simp_all,rfl⟩|exact ⟨rfl,rfl⟩)
theorem cond5_any (k:Int) (w:World):Calls Tryz.prog 42 #[.int .i64 k] w fun e w'=>e= .returned (.bool (decide (0<k)))∧w'=w:=by
 go_enter Tryz.func42,Tryz.ntmps42
 go_wp2
 all_goals (go_ret;first|exact ⟨by simp_all,rfl⟩|exact ⟨rfl,rfl⟩)
theorem cond6_any (k:Int) (w:World):Calls Tryz.prog 43 #[.int .i64 k] w fun e w'=>e= .returned (.bool (decide (0≤k)))∧w'=w:=by
 go_enter Tryz.func43,Tryz.ntmps43
 go_wp2
 all_goals (go_ret;first|exact ⟨by simp_all,rfl⟩|exact ⟨rfl,rfl⟩)
abbrev opsD:DataW Value:=(DataW.put (DataW.put (DataW.put (DataW.put (DataW.put (DataW.put (.map []) (litI 1) (.held (fnV 38))) (litI 2) (.held (fnV 39))) (litI 3) (.held (fnV 40))) (litI 4) (.held (fnV 41))) (litI 5) (.held (fnV 42))) (litI 6) (.held (fnV 43)))
theorem ops_at (op:Int) (zd:DataW Value):opsD.atKey (litI op) zd=if op=1 then .held (fnV 38) else if op=2 then .held (fnV 39) else if op=3 then .held (fnV 40) else if op=4 then .held (fnV 41) else if op=5 then .held (fnV 42) else if op=6 then .held (fnV 43) else zd:=by
 have h:opsD= .map [(litI 1,.held (fnV 38)),(litI 2,.held (fnV 39)),(litI 3,.held (fnV 40)),(litI 4,.held (fnV 41)),(litI 5,.held (fnV 42)),(litI 6,.held (fnV 43))]:=by rfl
 rw [h]
 unfold DataW.atKey
 simp only [List.find?,Lit.sameKey,litI,true_and]
 by_cases h1:op=1
 ·subst h1;rfl
 by_cases h2:op=2
 ·subst h2;rfl
 by_cases h3:op=3
 ·subst h3;rfl
 by_cases h4:op=4
 ·subst h4;rfl
 by_cases h5:op=5
 ·subst h5;rfl
 by_cases h6:op=6
 ·subst h6;rfl
 simp [h1,h2,h3,h4,h5,h6,Ne.symm h1,Ne.symm h2,Ne.symm h3,Ne.symm h4,Ne.symm h5,Ne.symm h6]
theorem grown_six {X A B C D E F G:World} {b:Nat} (hb:X.heap.size=b) (e:A=X.alloc (.map #[] 0)) (h1:A.grownBy B (some b)) (h2:B.grownBy C (some b)) (h3:C.grownBy D (some b)) (h4:D.grownBy E (some b)) (h5:E.grownBy F (some b)) (h6:F.grownBy G (some b)):Below X.heap.size X G:=by
 subst e
 have z0:Below X.heap.size X (X.alloc (.map #[] 0)):=(Below.refl _ _).alloc (Nat.le_refl _) _
 have z1:=z0.grown h1 z0.size (fun r e=>by cases e;omega)
 have z2:=z1.grown h2 z1.size (fun r e=>by cases e;omega)
 have z3:=z2.grown h3 z2.size (fun r e=>by cases e;omega)
 have z4:=z3.grown h4 z3.size (fun r e=>by cases e;omega)
 have z5:=z4.grown h5 z4.size (fun r e=>by cases e;omega)
 exact z5.grown h6 z5.size (fun r e=>by cases e;omega)
set_option maxHeartbeats 2000000 in
theorem holds_1 (pos op n:Int) (hop:op=1) (v:NumD) (hn:I64 n) (ho:I64 op) (hv:NumOk v) (w:World):
  Calls Tryz.prog 19 #[.agg #[.int .i64 pos,.int .i64 op,.int .i64 n],.agg #[.bool v.fl,.int .i64 v.n,.float .f64 v.f]] w fun e w'=>e= .returned (.bool (holdsB op n v))∧Below w.heap.size w w':=by
 have CN:=hid (fun W=>compare_num v ⟨n,false,0⟩ hv ⟨hn,(by decide:(0:Nat)<2^64)⟩ W)
 dsimp only at CN
 unfold holdsB
 generalize cmpN v ⟨n,false,0⟩=k at*
 have hkey:Hid (keyOf Tryz.prog 3 (.int .i64 op)=some (litI op)):=Maps.keyOf_int_mk Tryz.underlying3 (by unfold I64 at ho;simp [Lit.wf,IntKind.min,IntKind.max,IntKind.signed,IntKind.bits];omega)
 have hzero:∀W:World,(zeroValue 89).run Tryz.prog W= .ok .nilFunc W:=fun W=>by go_simp
 have HZ:=hid hzero
 have hmake:∀X,(Instr.makeMap 91 none).run Tryz.prog X= .ok (.map (some X.heap.size)) (X.alloc (.map #[] 0)):=fun X=>by first|exact run_makeMap X _ _ _ Tryz.underlying91|exact run_makeMap _ _|rfl
 have LK:=hid (fun (B:Nat) (W:World) (h:W.ownsMap Tryz.prog 3 heldR B 6 opsD)=>held_look h (Maps.int_keyed Tryz.underlying3) Tryz.underlying91 (HZ.out W) hkey.out)
 subst hop
 have LR:=hid (fun (B:Nat) (W:World) (h:W.ownsMap Tryz.prog 3 heldR B 6 opsD)=>(show (Instr.lookup 91 (.map (some B)) (.int .i64 1) true).run Tryz.prog W= .ok (.tuple #[.func (.func 38) #[] #[],.bool true]) W by
  obtain ⟨v,ok,hrun,hc⟩:=LK.out B W h
  rcases hc with ⟨rfl,hv⟩|⟨_,_,hv⟩
  ·have:=hv .nil
   rw [ops_at] at this
   simp at this
   rw [hrun,←this]
   rfl
  ·have:=hv .nil
   rw [ops_at] at this
   simp at this))
 clear hzero hv hn ho LK
 obtain ⟨fl,m,f⟩:∃fl:Bool,∃m:Int,∃f:Nat,True:=⟨v.fl,v.n,v.f,trivial⟩
 generalize v.fl=fl at*;generalize v.n=m at*;generalize v.f=f at*
 go_enter Tryz.func19,Tryz.ntmps19
 have h0:(((w.alloc (.cells #[.int .i64 pos,.int .i64 1,.int .i64 n] 57)).alloc (.cells #[.bool fl,.int .i64 m,.float .f64 f] 63)).alloc (.map #[] 0)).ownsMap Tryz.prog 3 heldR (w.heap.size+1+1) 0 (.map []):=by
  have h:=World.ownsMap_made ((w.alloc (.cells #[.int .i64 pos,.int .i64 1,.int .i64 n] 57)).alloc (.cells #[.bool fl,.int .i64 m,.float .f64 f] 63)) Tryz.prog 3 heldR
  rw [show ((w.alloc (.cells #[.int .i64 pos,.int .i64 1,.int .i64 n] 57)).alloc (.cells #[.bool fl,.int .i64 m,.float .f64 f] 63)).heap.size=w.heap.size+1+1 by simp only [World.size_alloc]] at h
  exact h
 have HB:=hid (fun (A B C D E F G:World) (e:A=((w.alloc (.cells #[.int .i64 pos,.int .i64 1,.int .i64 n] 57)).alloc (.cells #[.bool fl,.int .i64 m,.float .f64 f] 63)).alloc (.map #[] 0)) (h1:A.grownBy B (some (w.heap.size+1+1))) (h2:B.grownBy C (some (w.heap.size+1+1))) (h3:C.grownBy D (some (w.heap.size+1+1))) (h4:D.grownBy E (some (w.heap.size+1+1))) (h5:E.grownBy F (some (w.heap.size+1+1))) (h6:F.grownBy G (some (w.heap.size+1+1)))=>grown_six (X:=((w.alloc (.cells #[.int .i64 pos,.int .i64 1,.int .i64 n] 57)).alloc (.cells #[.bool fl,.int .i64 m,.float .f64 f] 63))) (by simp only [World.size_alloc]) e h1 h2 h3 h4 h5 h6)
 go_wp2_with (first
  |(go_at_call 38;go_loud ((with_reducible refine (cond1_any _ _).mono ?_);rintro e x2 ⟨rfl,rfl⟩))
  |(go_at_call 21;go_loud ((with_reducible refine (CN.out _).mono ?_);rintro e x1 ⟨rfl,hb1⟩))
  |(refine wpList_insert_own _ rfl _ _ _ 91 rfl 3 89 (Maps.int_keyed Tryz.underlying3) Tryz.underlying91 heldR (w.heap.size+1+1) 5 _ rfl hown5 (by unfold maxLen;omega) _ _ (litI 6) rfl rfl (by first|rfl|kernel_rfl|decide) (.held (fnV 43)) [] rfl ?_;intro w6 hown6 hg6;have hbX:=HB.out _ _ _ _ _ _ _ rfl hg1 hg2 hg3 hg4 hg5 hg6;have HBX:=hid hbX;have hrun:=LR.out _ _ hown6;have c1:w6.cell? ⟨w.heap.size,1,none⟩=some (.int .i64 1):=cell_step (by go_simp) hbX;have c2:w6.cell? ⟨w.heap.size,2,none⟩=some (.int .i64 n):=cell_step (by go_simp) hbX;have d0:w6.cell? ⟨w.heap.size+1,0,none⟩=some (.bool fl):=cell_step (by go_simp) hbX;have d1:w6.cell? ⟨w.heap.size+1,1,none⟩=some (.int .i64 m):=cell_step (by go_simp) hbX;have d2:w6.cell? ⟨w.heap.size+1,2,none⟩=some (.float .f64 f):=cell_step (by go_simp) hbX;clear hbX hown1 hown2 hown3 hown4 hown5 hown6 hg1 hg2 hg3 hg4 hg5 hg6)
  |(refine wpList_insert_own _ rfl _ _ _ 91 rfl 3 89 (Maps.int_keyed Tryz.underlying3) Tryz.underlying91 heldR (w.heap.size+1+1) 4 _ rfl hown4 (by unfold maxLen;omega) _ _ (litI 5) rfl rfl (by first|rfl|kernel_rfl|decide) (.held (fnV 42)) [] rfl ?_;intro w5 hown5 hg5)
  |(refine wpList_insert_own _ rfl _ _ _ 91 rfl 3 89 (Maps.int_keyed Tryz.underlying3) Tryz.underlying91 heldR (w.heap.size+1+1) 3 _ rfl hown3 (by unfold maxLen;omega) _ _ (litI 4) rfl rfl (by first|rfl|kernel_rfl|decide) (.held (fnV 41)) [] rfl ?_;intro w4 hown4 hg4)
  |(refine wpList_insert_own _ rfl _ _ _ 91 rfl 3 89 (Maps.int_keyed Tryz.underlying3) Tryz.underlying91 heldR (w.heap.size+1+1) 2 _ rfl hown2 (by unfold maxLen;omega) _ _ (litI 3) rfl rfl (by first|rfl|kernel_rfl|decide) (.held (fnV 40)) [] rfl ?_;intro w3 hown3 hg3)
  |(refine wpList_insert_own _ rfl _ _ _ 91 rfl 3 89 (Maps.int_keyed Tryz.underlying3) Tryz.underlying91 heldR (w.heap.size+1+1) 1 _ rfl hown1 (by unfold maxLen;omega) _ _ (litI 2) rfl rfl (by first|rfl|kernel_rfl|decide) (.held (fnV 39)) [] rfl ?_;intro w2 hown2 hg2)
  |(refine wpList_insert_own _ rfl _ _ _ 91 rfl 3 89 (Maps.int_keyed Tryz.underlying3) Tryz.underlying91 heldR (w.heap.size+1+1) 0 _ rfl h0 (by unfold maxLen;omega) _ _ (litI 1) rfl rfl (by first|rfl|kernel_rfl|decide) (.held (fnV 38)) [] rfl ?_;intro w1 hown1 hg1))
 go_ways
 go_ret
 exact ⟨rfl,by have:=HBX.out;exact Gr⟩
set_option maxHeartbeats 2000000 in
theorem holds_2 (pos op n:Int) (hop:op=2) (v:NumD) (hn:I64 n) (ho:I64 op) (hv:NumOk v) (w:World):
  Calls Tryz.prog 19 #[.agg #[.int .i64 pos,.int .i64 op,.int .i64 n],.agg #[.bool v.fl,.int .i64 v.n,.float .f64 v.f]] w fun e w'=>e= .returned (.bool (holdsB op n v))∧Below w.heap.size w w':=by
 have CN:=hid (fun W=>compare_num v ⟨n,false,0⟩ hv ⟨hn,(by decide:(0:Nat)<2^64)⟩ W)
 dsimp only at CN
 unfold holdsB
 generalize cmpN v ⟨n,false,0⟩=k at*
 have hkey:Hid (keyOf Tryz.prog 3 (.int .i64 op)=some (litI op)):=Maps.keyOf_int_mk Tryz.underlying3 (by unfold I64 at ho;simp [Lit.wf,IntKind.min,IntKind.max,IntKind.signed,IntKind.bits];omega)
 have hzero:∀W:World,(zeroValue 89).run Tryz.prog W= .ok .nilFunc W:=fun W=>by go_simp
 have HZ:=hid hzero
 have hmake:∀X,(Instr.makeMap 91 none).run Tryz.prog X= .ok (.map (some X.heap.size)) (X.alloc (.map #[] 0)):=fun X=>by first|exact run_makeMap X _ _ _ Tryz.underlying91|exact run_makeMap _ _|rfl
 have LK:=hid (fun (B:Nat) (W:World) (h:W.ownsMap Tryz.prog 3 heldR B 6 opsD)=>held_look h (Maps.int_keyed Tryz.underlying3) Tryz.underlying91 (HZ.out W) hkey.out)
 subst hop
 have LR:=hid (fun (B:Nat) (W:World) (h:W.ownsMap Tryz.prog 3 heldR B 6 opsD)=>(show (Instr.lookup 91 (.map (some B)) (.int .i64 2) true).run Tryz.prog W= .ok (.tuple #[.func (.func 39) #[] #[],.bool true]) W by
  obtain ⟨v,ok,hrun,hc⟩:=LK.out B W h
  rcases hc with ⟨rfl,hv⟩|⟨_,_,hv⟩
  ·have:=hv .nil
   rw [ops_at] at this
   simp at this
   rw [hrun,←this]
   rfl
  ·have:=hv .nil
   rw [ops_at] at this
   simp at this))
 clear hzero hv hn ho LK
 obtain ⟨fl,m,f⟩:∃fl:Bool,∃m:Int,∃f:Nat,True:=⟨v.fl,v.n,v.f,trivial⟩
 generalize v.fl=fl at*;generalize v.n=m at*;generalize v.f=f at*
 go_enter Tryz.func19,Tryz.ntmps19
 have h0:(((w.alloc (.cells #[.int .i64 pos,.int .i64 2,.int .i64 n] 57)).alloc (.cells #[.bool fl,.int .i64 m,.float .f64 f] 63)).alloc (.map #[] 0)).ownsMap Tryz.prog 3 heldR (w.heap.size+1+1) 0 (.map []):=by
  have h:=World.ownsMap_made ((w.alloc (.cells #[.int .i64 pos,.int .i64 2,.int .i64 n] 57)).alloc (.cells #[.bool fl,.int .i64 m,.float .f64 f] 63)) Tryz.prog 3 heldR
  rw [show ((w.alloc (.cells #[.int .i64 pos,.int .i64 2,.int .i64 n] 57)).alloc (.cells #[.bool fl,.int .i64 m,.float .f64 f] 63)).heap.size=w.heap.size+1+1 by simp only [World.size_alloc]] at h
  exact h
 have HB:=hid (fun (A B C D E F G:World) (e:A=((w.alloc (.cells #[.int .i64 pos,.int .i64 2,.int .i64 n] 57)).alloc (.cells #[.bool fl,.int .i64 m,.float .f64 f] 63)).alloc (.map #[] 0)) (h1:A.grownBy B (some (w.heap.size+1+1))) (h2:B.grownBy C (some (w.heap.size+1+1))) (h3:C.grownBy D (some (w.heap.size+1+1))) (h4:D.grownBy E (some (w.heap.size+1+1))) (h5:E.grownBy F (some (w.heap.size+1+1))) (h6:F.grownBy G (some (w.heap.size+1+1)))=>grown_six (X:=((w.alloc (.cells #[.int .i64 pos,.int .i64 2,.int .i64 n] 57)).alloc (.cells #[.bool fl,.int .i64 m,.float .f64 f] 63))) (by simp only [World.size_alloc]) e h1 h2 h3 h4 h5 h6)
 go_wp2_with (first
  |(go_at_call 39;go_loud ((with_reducible refine (cond2_any _ _).mono ?_);rintro e x2 ⟨rfl,rfl⟩))
  |(go_at_call 21;go_loud ((with_reducible refine (CN.out _).mono ?_);rintro e x1 ⟨rfl,hb1⟩))
  |(refine wpList_insert_own _ rfl _ _ _ 91 rfl 3 89 (Maps.int_keyed Tryz.underlying3) Tryz.underlying91 heldR (w.heap.size+1+1) 5 _ rfl hown5 (by unfold maxLen;omega) _ _ (litI 6) rfl rfl (by first|rfl|kernel_rfl|decide) (.held (fnV 43)) [] rfl ?_;intro w6 hown6 hg6;have hbX:=HB.out _ _ _ _ _ _ _ rfl hg1 hg2 hg3 hg4 hg5 hg6;have HBX:=hid hbX;have hrun:=LR.out _ _ hown6;have c1:w6.cell? ⟨w.heap.size,1,none⟩=some (.int .i64 2):=cell_step (by go_simp) hbX;have c2:w6.cell? ⟨w.heap.size,2,none⟩=some (.int .i64 n):=cell_step (by go_simp) hbX;have d0:w6.cell? ⟨w.heap.size+1,0,none⟩=some (.bool fl):=cell_step (by go_simp) hbX;have d1:w6.cell? ⟨w.heap.size+1,1,none⟩=some (.int .i64 m):=cell_step (by go_simp) hbX;have d2:w6.cell? ⟨w.heap.size+1,2,none⟩=some (.float .f64 f):=cell_step (by go_simp) hbX;clear hbX hown1 hown2 hown3 hown4 hown5 hown6 hg1 hg2 hg3 hg4 hg5 hg6)
  |(refine wpList_insert_own _ rfl _ _ _ 91 rfl 3 89 (Maps.int_keyed Tryz.underlying3) Tryz.underlying91 heldR (w.heap.size+1+1) 4 _ rfl hown4 (by unfold maxLen;omega) _ _ (litI 5) rfl rfl (by first|rfl|kernel_rfl|decide) (.held (fnV 42)) [] rfl ?_;intro w5 hown5 hg5)
  |(refine wpList_insert_own _ rfl _ _ _ 91 rfl 3 89 (Maps.int_keyed Tryz.underlying3) Tryz.underlying91 heldR (w.heap.size+1+1) 3 _ rfl hown3 (by unfold maxLen;omega) _ _ (litI 4) rfl rfl (by first|rfl|kernel_rfl|decide) (.held (fnV 41)) [] rfl ?_;intro w4 hown4 hg4)
  |(refine wpList_insert_own _ rfl _ _ _ 91 rfl 3 89 (Maps.int_keyed Tryz.underlying3) Tryz.underlying91 heldR (w.heap.size+1+1) 2 _ rfl hown2 (by unfold maxLen;omega) _ _ (litI 3) rfl rfl (by first|rfl|kernel_rfl|decide) (.held (fnV 40)) [] rfl ?_;intro w3 hown3 hg3)
  |(refine wpList_insert_own _ rfl _ _ _ 91 rfl 3 89 (Maps.int_keyed Tryz.underlying3) Tryz.underlying91 heldR (w.heap.size+1+1) 1 _ rfl hown1 (by unfold maxLen;omega) _ _ (litI 2) rfl rfl (by first|rfl|kernel_rfl|decide) (.held (fnV 39)) [] rfl ?_;intro w2 hown2 hg2)
  |(refine wpList_insert_own _ rfl _ _ _ 91 rfl 3 89 (Maps.int_keyed Tryz.underlying3) Tryz.underlying91 heldR (w.heap.size+1+1) 0 _ rfl h0 (by unfold maxLen;omega) _ _ (litI 1) rfl rfl (by first|rfl|kernel_rfl|decide) (.held (fnV 38)) [] rfl ?_;intro w1 hown1 hg1))
 go_ways
 go_ret
 exact ⟨rfl,by have:=HBX.out;exact Gr⟩
set_option maxHeartbeats 2000000 in
theorem holds_3 (pos op n:Int) (hop:op=3) (v:NumD) (hn:I64 n) (ho:I64 op) (hv:NumOk v) (w:World):
  Calls Tryz.prog 19 #[.agg #[.int .i64 pos,.int .i64 op,.int .i64 n],.agg #[.bool v.fl,.int .i64 v.n,.float .f64 v.f]] w fun e w'=>e= .returned (.bool (holdsB op n v))∧Below w.heap.size w w':=by
 have CN:=hid (fun W=>compare_num v ⟨n,false,0⟩ hv ⟨hn,(by decide:(0:Nat)<2^64)⟩ W)
 dsimp only at CN
 unfold holdsB
 generalize cmpN v ⟨n,false,0⟩=k at*
 have hkey:Hid (keyOf Tryz.prog 3 (.int .i64 op)=some (litI op)):=Maps.keyOf_int_mk Tryz.underlying3 (by unfold I64 at ho;simp [Lit.wf,IntKind.min,IntKind.max,IntKind.signed,IntKind.bits];omega)
 have hzero:∀W:World,(zeroValue 89).run Tryz.prog W= .ok .nilFunc W:=fun W=>by go_simp
 have HZ:=hid hzero
 have hmake:∀X,(Instr.makeMap 91 none).run Tryz.prog X= .ok (.map (some X.heap.size)) (X.alloc (.map #[] 0)):=fun X=>by first|exact run_makeMap X _ _ _ Tryz.underlying91|exact run_makeMap _ _|rfl
 have LK:=hid (fun (B:Nat) (W:World) (h:W.ownsMap Tryz.prog 3 heldR B 6 opsD)=>held_look h (Maps.int_keyed Tryz.underlying3) Tryz.underlying91 (HZ.out W) hkey.out)
 subst hop
 have LR:=hid (fun (B:Nat) (W:World) (h:W.ownsMap Tryz.prog 3 heldR B 6 opsD)=>(show (Instr.lookup 91 (.map (some B)) (.int .i64 3) true).run Tryz.prog W= .ok (.tuple #[.func (.func 40) #[] #[],.bool true]) W by
  obtain ⟨v,ok,hrun,hc⟩:=LK.out B W h
  rcases hc with ⟨rfl,hv⟩|⟨_,_,hv⟩
  ·have:=hv .nil
   rw [ops_at] at this
   simp at this
   rw [hrun,←this]
   rfl
  ·have:=hv .nil
   rw [ops_at] at this
   simp at this))
 clear hzero hv hn ho LK
 obtain ⟨fl,m,f⟩:∃fl:Bool,∃m:Int,∃f:Nat,True:=⟨v.fl,v.n,v.f,trivial⟩
 generalize v.fl=fl at*;generalize v.n=m at*;generalize v.f=f at*
 go_enter Tryz.func19,Tryz.ntmps19
 have h0:(((w.alloc (.cells #[.int .i64 pos,.int .i64 3,.int .i64 n] 57)).alloc (.cells #[.bool fl,.int .i64 m,.float .f64 f] 63)).alloc (.map #[] 0)).ownsMap Tryz.prog 3 heldR (w.heap.size+1+1) 0 (.map []):=by
  have h:=World.ownsMap_made ((w.alloc (.cells #[.int .i64 pos,.int .i64 3,.int .i64 n] 57)).alloc (.cells #[.bool fl,.int .i64 m,.float .f64 f] 63)) Tryz.prog 3 heldR
  rw [show ((w.alloc (.cells #[.int .i64 pos,.int .i64 3,.int .i64 n] 57)).alloc (.cells #[.bool fl,.int .i64 m,.float .f64 f] 63)).heap.size=w.heap.size+1+1 by simp only [World.size_alloc]] at h
  exact h
 have HB:=hid (fun (A B C D E F G:World) (e:A=((w.alloc (.cells #[.int .i64 pos,.int .i64 3,.int .i64 n] 57)).alloc (.cells #[.bool fl,.int .i64 m,.float .f64 f] 63)).alloc (.map #[] 0)) (h1:A.grownBy B (some (w.heap.size+1+1))) (h2:B.grownBy C (some (w.heap.size+1+1))) (h3:C.grownBy D (some (w.heap.size+1+1))) (h4:D.grownBy E (some (w.heap.size+1+1))) (h5:E.grownBy F (some (w.heap.size+1+1))) (h6:F.grownBy G (some (w.heap.size+1+1)))=>grown_six (X:=((w.alloc (.cells #[.int .i64 pos,.int .i64 3,.int .i64 n] 57)).alloc (.cells #[.bool fl,.int .i64 m,.float .f64 f] 63))) (by simp only [World.size_alloc]) e h1 h2 h3 h4 h5 h6)
 go_wp2_with (first
  |(go_at_call 40;go_loud ((with_reducible refine (cond3_any _ _).mono ?_);rintro e x2 ⟨rfl,rfl⟩))
  |(go_at_call 21;go_loud ((with_reducible refine (CN.out _).mono ?_);rintro e x1 ⟨rfl,hb1⟩))
  |(refine wpList_insert_own _ rfl _ _ _ 91 rfl 3 89 (Maps.int_keyed Tryz.underlying3) Tryz.underlying91 heldR (w.heap.size+1+1) 5 _ rfl hown5 (by unfold maxLen;omega) _ _ (litI 6) rfl rfl (by first|rfl|kernel_rfl|decide) (.held (fnV 43)) [] rfl ?_;intro w6 hown6 hg6;have hbX:=HB.out _ _ _ _ _ _ _ rfl hg1 hg2 hg3 hg4 hg5 hg6;have HBX:=hid hbX;have hrun:=LR.out _ _ hown6;have c1:w6.cell? ⟨w.heap.size,1,none⟩=some (.int .i64 3):=cell_step (by go_simp) hbX;have c2:w6.cell? ⟨w.heap.size,2,none⟩=some (.int .i64 n):=cell_step (by go_simp) hbX;have d0:w6.cell? ⟨w.heap.size+1,0,none⟩=some (.bool fl):=cell_step (by go_simp) hbX;have d1:w6.cell? ⟨w.heap.size+1,1,none⟩=some (.int .i64 m):=cell_step (by go_simp) hbX;have d2:w6.cell? ⟨w.heap.size+1,2,none⟩=some (.float .f64 f):=cell_step (by go_simp) hbX;clear hbX hown1 hown2 hown3 hown4 hown5 hown6 hg1 hg2 hg3 hg4 hg5 hg6)
  |(refine wpList_insert_own _ rfl _ _ _ 91 rfl 3 89 (Maps.int_keyed Tryz.underlying3) Tryz.underlying91 heldR (w.heap.size+1+1) 4 _ rfl hown4 (by unfold maxLen;omega) _ _ (litI 5) rfl rfl (by first|rfl|kernel_rfl|decide) (.held (fnV 42)) [] rfl ?_;intro w5 hown5 hg5)
  |(refine wpList_insert_own _ rfl _ _ _ 91 rfl 3 89 (Maps.int_keyed Tryz.underlying3) Tryz.underlying91 heldR (w.heap.size+1+1) 3 _ rfl hown3 (by unfold maxLen;omega) _ _ (litI 4) rfl rfl (by first|rfl|kernel_rfl|decide) (.held (fnV 41)) [] rfl ?_;intro w4 hown4 hg4)
  |(refine wpList_insert_own _ rfl _ _ _ 91 rfl 3 89 (Maps.int_keyed Tryz.underlying3) Tryz.underlying91 heldR (w.heap.size+1+1) 2 _ rfl hown2 (by unfold maxLen;omega) _ _ (litI 3) rfl rfl (by first|rfl|kernel_rfl|decide) (.held (fnV 40)) [] rfl ?_;intro w3 hown3 hg3)
  |(refine wpList_insert_own _ rfl _ _ _ 91 rfl 3 89 (Maps.int_keyed Tryz.underlying3) Tryz.underlying91 heldR (w.heap.size+1+1) 1 _ rfl hown1 (by unfold maxLen;omega) _ _ (litI 2) rfl rfl (by first|rfl|kernel_rfl|decide) (.held (fnV 39)) [] rfl ?_;intro w2 hown2 hg2)
  |(refine wpList_insert_own _ rfl _ _ _ 91 rfl 3 89 (Maps.int_keyed Tryz.underlying3) Tryz.underlying91 heldR (w.heap.size+1+1) 0 _ rfl h0 (by unfold maxLen;omega) _ _ (litI 1) rfl rfl (by first|rfl|kernel_rfl|decide) (.held (fnV 38)) [] rfl ?_;intro w1 hown1 hg1))
 go_ways
 go_ret
 exact ⟨rfl,by have:=HBX.out;exact Gr⟩
set_option maxHeartbeats 2000000 in
theorem holds_4 (pos op n:Int) (hop:op=4) (v:NumD) (hn:I64 n) (ho:I64 op) (hv:NumOk v) (w:World):
  Calls Tryz.prog 19 #[.agg #[.int .i64 pos,.int .i64 op,.int .i64 n],.agg #[.bool v.fl,.int .i64 v.n,.float .f64 v.f]] w fun e w'=>e= .returned (.bool (holdsB op n v))∧Below w.heap.size w w':=by
 have CN:=hid (fun W=>compare_num v ⟨n,false,0⟩ hv ⟨hn,(by decide:(0:Nat)<2^64)⟩ W)
 dsimp only at CN
 unfold holdsB
 generalize cmpN v ⟨n,false,0⟩=k at*
 have hkey:Hid (keyOf Tryz.prog 3 (.int .i64 op)=some (litI op)):=Maps.keyOf_int_mk Tryz.underlying3 (by unfold I64 at ho;simp [Lit.wf,IntKind.min,IntKind.max,IntKind.signed,IntKind.bits];omega)
 have hzero:∀W:World,(zeroValue 89).run Tryz.prog W= .ok .nilFunc W:=fun W=>by go_simp
 have HZ:=hid hzero
 have hmake:∀X,(Instr.makeMap 91 none).run Tryz.prog X= .ok (.map (some X.heap.size)) (X.alloc (.map #[] 0)):=fun X=>by first|exact run_makeMap X _ _ _ Tryz.underlying91|exact run_makeMap _ _|rfl
 have LK:=hid (fun (B:Nat) (W:World) (h:W.ownsMap Tryz.prog 3 heldR B 6 opsD)=>held_look h (Maps.int_keyed Tryz.underlying3) Tryz.underlying91 (HZ.out W) hkey.out)
 subst hop
 have LR:=hid (fun (B:Nat) (W:World) (h:W.ownsMap Tryz.prog 3 heldR B 6 opsD)=>(show (Instr.lookup 91 (.map (some B)) (.int .i64 4) true).run Tryz.prog W= .ok (.tuple #[.func (.func 41) #[] #[],.bool true]) W by
  obtain ⟨v,ok,hrun,hc⟩:=LK.out B W h
  rcases hc with ⟨rfl,hv⟩|⟨_,_,hv⟩
  ·have:=hv .nil
   rw [ops_at] at this
   simp at this
   rw [hrun,←this]
   rfl
  ·have:=hv .nil
   rw [ops_at] at this
   simp at this))
 clear hzero hv hn ho LK
 obtain ⟨fl,m,f⟩:∃fl:Bool,∃m:Int,∃f:Nat,True:=⟨v.fl,v.n,v.f,trivial⟩
 generalize v.fl=fl at*;generalize v.n=m at*;generalize v.f=f at*
 go_enter Tryz.func19,Tryz.ntmps19
 have h0:(((w.alloc (.cells #[.int .i64 pos,.int .i64 4,.int .i64 n] 57)).alloc (.cells #[.bool fl,.int .i64 m,.float .f64 f] 63)).alloc (.map #[] 0)).ownsMap Tryz.prog 3 heldR (w.heap.size+1+1) 0 (.map []):=by
  have h:=World.ownsMap_made ((w.alloc (.cells #[.int .i64 pos,.int .i64 4,.int .i64 n] 57)).alloc (.cells #[.bool fl,.int .i64 m,.float .f64 f] 63)) Tryz.prog 3 heldR
  rw [show ((w.alloc (.cells #[.int .i64 pos,.int .i64 4,.int .i64 n] 57)).alloc (.cells #[.bool fl,.int .i64 m,.float .f64 f] 63)).heap.size=w.heap.size+1+1 by simp only [World.size_alloc]] at h
  exact h
 have HB:=hid (fun (A B C D E F G:World) (e:A=((w.alloc (.cells #[.int .i64 pos,.int .i64 4,.int .i64 n] 57)).alloc (.cells #[.bool fl,.int .i64 m,.float .f64 f] 63)).alloc (.map #[] 0)) (h1:A.grownBy B (some (w.heap.size+1+1))) (h2:B.grownBy C (some (w.heap.size+1+1))) (h3:C.grownBy D (some (w.heap.size+1+1))) (h4:D.grownBy E (some (w.heap.size+1+1))) (h5:E.grownBy F (some (w.heap.size+1+1))) (h6:F.grownBy G (some (w.heap.size+1+1)))=>grown_six (X:=((w.alloc (.cells #[.int .i64 pos,.int .i64 4,.int .i64 n] 57)).alloc (.cells #[.bool fl,.int .i64 m,.float .f64 f] 63))) (by simp only [World.size_alloc]) e h1 h2 h3 h4 h5 h6)
 go_wp2_with (first
  |(go_at_call 41;go_loud ((with_reducible refine (cond4_any _ _).mono ?_);rintro e x2 ⟨rfl,rfl⟩))
  |(go_at_call 21;go_loud ((with_reducible refine (CN.out _).mono ?_);rintro e x1 ⟨rfl,hb1⟩))
  |(refine wpList_insert_own _ rfl _ _ _ 91 rfl 3 89 (Maps.int_keyed Tryz.underlying3) Tryz.underlying91 heldR (w.heap.size+1+1) 5 _ rfl hown5 (by unfold maxLen;omega) _ _ (litI 6) rfl rfl (by first|rfl|kernel_rfl|decide) (.held (fnV 43)) [] rfl ?_;intro w6 hown6 hg6;have hbX:=HB.out _ _ _ _ _ _ _ rfl hg1 hg2 hg3 hg4 hg5 hg6;have HBX:=hid hbX;have hrun:=LR.out _ _ hown6;have c1:w6.cell? ⟨w.heap.size,1,none⟩=some (.int .i64 4):=cell_step (by go_simp) hbX;have c2:w6.cell? ⟨w.heap.size,2,none⟩=some (.int .i64 n):=cell_step (by go_simp) hbX;have d0:w6.cell? ⟨w.heap.size+1,0,none⟩=some (.bool fl):=cell_step (by go_simp) hbX;have d1:w6.cell? ⟨w.heap.size+1,1,none⟩=some (.int .i64 m):=cell_step (by go_simp) hbX;have d2:w6.cell? ⟨w.heap.size+1,2,none⟩=some (.float .f64 f):=cell_step (by go_simp) hbX;clear hbX hown1 hown2 hown3 hown4 hown5 hown6 hg1 hg2 hg3 hg4 hg5 hg6)
  |(refine wpList_insert_own _ rfl _ _ _ 91 rfl 3 89 (Maps.int_keyed Tryz.underlying3) Tryz.underlying91 heldR (w.heap.size+1+1) 4 _ rfl hown4 (by unfold maxLen;omega) _ _ (litI 5) rfl rfl (by first|rfl|kernel_rfl|decide) (.held (fnV 42)) [] rfl ?_;intro w5 hown5 hg5)
  |(refine wpList_insert_own _ rfl _ _ _ 91 rfl 3 89 (Maps.int_keyed Tryz.underlying3) Tryz.underlying91 heldR (w.heap.size+1+1) 3 _ rfl hown3 (by unfold maxLen;omega) _ _ (litI 4) rfl rfl (by first|rfl|kernel_rfl|decide) (.held (fnV 41)) [] rfl ?_;intro w4 hown4 hg4)
  |(refine wpList_insert_own _ rfl _ _ _ 91 rfl 3 89 (Maps.int_keyed Tryz.underlying3) Tryz.underlying91 heldR (w.heap.size+1+1) 2 _ rfl hown2 (by unfold maxLen;omega) _ _ (litI 3) rfl rfl (by first|rfl|kernel_rfl|decide) (.held (fnV 40)) [] rfl ?_;intro w3 hown3 hg3)
  |(refine wpList_insert_own _ rfl _ _ _ 91 rfl 3 89 (Maps.int_keyed Tryz.underlying3) Tryz.underlying91 heldR (w.heap.size+1+1) 1 _ rfl hown1 (by unfold maxLen;omega) _ _ (litI 2) rfl rfl (by first|rfl|kernel_rfl|decide) (.held (fnV 39)) [] rfl ?_;intro w2 hown2 hg2)
  |(refine wpList_insert_own _ rfl _ _ _ 91 rfl 3 89 (Maps.int_keyed Tryz.underlying3) Tryz.underlying91 heldR (w.heap.size+1+1) 0 _ rfl h0 (by unfold maxLen;omega) _ _ (litI 1) rfl rfl (by first|rfl|kernel_rfl|decide) (.held (fnV 38)) [] rfl ?_;intro w1 hown1 hg1))
 go_ways
 go_ret
 exact ⟨rfl,by have:=HBX.out;exact Gr⟩
set_option maxHeartbeats 2000000 in
theorem holds_5 (pos op n:Int) (hop:op=5) (v:NumD) (hn:I64 n) (ho:I64 op) (hv:NumOk v) (w:World):
  Calls Tryz.prog 19 #[.agg #[.int .i64 pos,.int .i64 op,.int .i64 n],.agg #[.bool v.fl,.int .i64 v.n,.float .f64 v.f]] w fun e w'=>e= .returned (.bool (holdsB op n v))∧Below w.heap.size w w':=by
 have CN:=hid (fun W=>compare_num v ⟨n,false,0⟩ hv ⟨hn,(by decide:(0:Nat)<2^64)⟩ W)
 dsimp only at CN
 unfold holdsB
 generalize cmpN v ⟨n,false,0⟩=k at*
 have hkey:Hid (keyOf Tryz.prog 3 (.int .i64 op)=some (litI op)):=Maps.keyOf_int_mk Tryz.underlying3 (by unfold I64 at ho;simp [Lit.wf,IntKind.min,IntKind.max,IntKind.signed,IntKind.bits];omega)
 have hzero:∀W:World,(zeroValue 89).run Tryz.prog W= .ok .nilFunc W:=fun W=>by go_simp
 have HZ:=hid hzero
 have hmake:∀X,(Instr.makeMap 91 none).run Tryz.prog X= .ok (.map (some X.heap.size)) (X.alloc (.map #[] 0)):=fun X=>by first|exact run_makeMap X _ _ _ Tryz.underlying91|exact run_makeMap _ _|rfl
 have LK:=hid (fun (B:Nat) (W:World) (h:W.ownsMap Tryz.prog 3 heldR B 6 opsD)=>held_look h (Maps.int_keyed Tryz.underlying3) Tryz.underlying91 (HZ.out W) hkey.out)
 subst hop
 have LR:=hid (fun (B:Nat) (W:World) (h:W.ownsMap Tryz.prog 3 heldR B 6 opsD)=>(show (Instr.lookup 91 (.map (some B)) (.int .i64 5) true).run Tryz.prog W= .ok (.tuple #[.func (.func 42) #[] #[],.bool true]) W by
  obtain ⟨v,ok,hrun,hc⟩:=LK.out B W h
  rcases hc with ⟨rfl,hv⟩|⟨_,_,hv⟩
  ·have:=hv .nil
   rw [ops_at] at this
   simp at this
   rw [hrun,←this]
   rfl
  ·have:=hv .nil
   rw [ops_at] at this
   simp at this))
 clear hzero hv hn ho LK
 obtain ⟨fl,m,f⟩:∃fl:Bool,∃m:Int,∃f:Nat,True:=⟨v.fl,v.n,v.f,trivial⟩
 generalize v.fl=fl at*;generalize v.n=m at*;generalize v.f=f at*
 go_enter Tryz.func19,Tryz.ntmps19
 have h0:(((w.alloc (.cells #[.int .i64 pos,.int .i64 5,.int .i64 n] 57)).alloc (.cells #[.bool fl,.int .i64 m,.float .f64 f] 63)).alloc (.map #[] 0)).ownsMap Tryz.prog 3 heldR (w.heap.size+1+1) 0 (.map []):=by
  have h:=World.ownsMap_made ((w.alloc (.cells #[.int .i64 pos,.int .i64 5,.int .i64 n] 57)).alloc (.cells #[.bool fl,.int .i64 m,.float .f64 f] 63)) Tryz.prog 3 heldR
  rw [show ((w.alloc (.cells #[.int .i64 pos,.int .i64 5,.int .i64 n] 57)).alloc (.cells #[.bool fl,.int .i64 m,.float .f64 f] 63)).heap.size=w.heap.size+1+1 by simp only [World.size_alloc]] at h
  exact h
 have HB:=hid (fun (A B C D E F G:World) (e:A=((w.alloc (.cells #[.int .i64 pos,.int .i64 5,.int .i64 n] 57)).alloc (.cells #[.bool fl,.int .i64 m,.float .f64 f] 63)).alloc (.map #[] 0)) (h1:A.grownBy B (some (w.heap.size+1+1))) (h2:B.grownBy C (some (w.heap.size+1+1))) (h3:C.grownBy D (some (w.heap.size+1+1))) (h4:D.grownBy E (some (w.heap.size+1+1))) (h5:E.grownBy F (some (w.heap.size+1+1))) (h6:F.grownBy G (some (w.heap.size+1+1)))=>grown_six (X:=((w.alloc (.cells #[.int .i64 pos,.int .i64 5,.int .i64 n] 57)).alloc (.cells #[.bool fl,.int .i64 m,.float .f64 f] 63))) (by simp only [World.size_alloc]) e h1 h2 h3 h4 h5 h6)
 go_wp2_with (first
  |(go_at_call 42;go_loud ((with_reducible refine (cond5_any _ _).mono ?_);rintro e x2 ⟨rfl,rfl⟩))
  |(go_at_call 21;go_loud ((with_reducible refine (CN.out _).mono ?_);rintro e x1 ⟨rfl,hb1⟩))
  |(refine wpList_insert_own _ rfl _ _ _ 91 rfl 3 89 (Maps.int_keyed Tryz.underlying3) Tryz.underlying91 heldR (w.heap.size+1+1) 5 _ rfl hown5 (by unfold maxLen;omega) _ _ (litI 6) rfl rfl (by first|rfl|kernel_rfl|decide) (.held (fnV 43)) [] rfl ?_;intro w6 hown6 hg6;have hbX:=HB.out _ _ _ _ _ _ _ rfl hg1 hg2 hg3 hg4 hg5 hg6;have HBX:=hid hbX;have hrun:=LR.out _ _ hown6;have c1:w6.cell? ⟨w.heap.size,1,none⟩=some (.int .i64 5):=cell_step (by go_simp) hbX;have c2:w6.cell? ⟨w.heap.size,2,none⟩=some (.int .i64 n):=cell_step (by go_simp) hbX;have d0:w6.cell? ⟨w.heap.size+1,0,none⟩=some (.bool fl):=cell_step (by go_simp) hbX;have d1:w6.cell? ⟨w.heap.size+1,1,none⟩=some (.int .i64 m):=cell_step (by go_simp) hbX;have d2:w6.cell? ⟨w.heap.size+1,2,none⟩=some (.float .f64 f):=cell_step (by go_simp) hbX;clear hbX hown1 hown2 hown3 hown4 hown5 hown6 hg1 hg2 hg3 hg4 hg5 hg6)
  |(refine wpList_insert_own _ rfl _ _ _ 91 rfl 3 89 (Maps.int_keyed Tryz.underlying3) Tryz.underlying91 heldR (w.heap.size+1+1) 4 _ rfl hown4 (by unfold maxLen;omega) _ _ (litI 5) rfl rfl (by first|rfl|kernel_rfl|decide) (.held (fnV 42)) [] rfl ?_;intro w5 hown5 hg5)
  |(refine wpList_insert_own _ rfl _ _ _ 91 rfl 3 89 (Maps.int_keyed Tryz.underlying3) Tryz.underlying91 heldR (w.heap.size+1+1) 3 _ rfl hown3 (by unfold maxLen;omega) _ _ (litI 4) rfl rfl (by first|rfl|kernel_rfl|decide) (.held (fnV 41)) [] rfl ?_;intro w4 hown4 hg4)
  |(refine wpList_insert_own _ rfl _ _ _ 91 rfl 3 89 (Maps.int_keyed Tryz.underlying3) Tryz.underlying91 heldR (w.heap.size+1+1) 2 _ rfl hown2 (by unfold maxLen;omega) _ _ (litI 3) rfl rfl (by first|rfl|kernel_rfl|decide) (.held (fnV 40)) [] rfl ?_;intro w3 hown3 hg3)
  |(refine wpList_insert_own _ rfl _ _ _ 91 rfl 3 89 (Maps.int_keyed Tryz.underlying3) Tryz.underlying91 heldR (w.heap.size+1+1) 1 _ rfl hown1 (by unfold maxLen;omega) _ _ (litI 2) rfl rfl (by first|rfl|kernel_rfl|decide) (.held (fnV 39)) [] rfl ?_;intro w2 hown2 hg2)
  |(refine wpList_insert_own _ rfl _ _ _ 91 rfl 3 89 (Maps.int_keyed Tryz.underlying3) Tryz.underlying91 heldR (w.heap.size+1+1) 0 _ rfl h0 (by unfold maxLen;omega) _ _ (litI 1) rfl rfl (by first|rfl|kernel_rfl|decide) (.held (fnV 38)) [] rfl ?_;intro w1 hown1 hg1))
 go_ways
 go_ret
 exact ⟨rfl,by have:=HBX.out;exact Gr⟩
set_option maxHeartbeats 2000000 in
theorem holds_6 (pos op n:Int) (hop:op=6) (v:NumD) (hn:I64 n) (ho:I64 op) (hv:NumOk v) (w:World):
  Calls Tryz.prog 19 #[.agg #[.int .i64 pos,.int .i64 op,.int .i64 n],.agg #[.bool v.fl,.int .i64 v.n,.float .f64 v.f]] w fun e w'=>e= .returned (.bool (holdsB op n v))∧Below w.heap.size w w':=by
 have CN:=hid (fun W=>compare_num v ⟨n,false,0⟩ hv ⟨hn,(by decide:(0:Nat)<2^64)⟩ W)
 dsimp only at CN
 unfold holdsB
 generalize cmpN v ⟨n,false,0⟩=k at*
 have hkey:Hid (keyOf Tryz.prog 3 (.int .i64 op)=some (litI op)):=Maps.keyOf_int_mk Tryz.underlying3 (by unfold I64 at ho;simp [Lit.wf,IntKind.min,IntKind.max,IntKind.signed,IntKind.bits];omega)
 have hzero:∀W:World,(zeroValue 89).run Tryz.prog W= .ok .nilFunc W:=fun W=>by go_simp
 have HZ:=hid hzero
 have hmake:∀X,(Instr.makeMap 91 none).run Tryz.prog X= .ok (.map (some X.heap.size)) (X.alloc (.map #[] 0)):=fun X=>by first|exact run_makeMap X _ _ _ Tryz.underlying91|exact run_makeMap _ _|rfl
 have LK:=hid (fun (B:Nat) (W:World) (h:W.ownsMap Tryz.prog 3 heldR B 6 opsD)=>held_look h (Maps.int_keyed Tryz.underlying3) Tryz.underlying91 (HZ.out W) hkey.out)
 subst hop
 have LR:=hid (fun (B:Nat) (W:World) (h:W.ownsMap Tryz.prog 3 heldR B 6 opsD)=>(show (Instr.lookup 91 (.map (some B)) (.int .i64 6) true).run Tryz.prog W= .ok (.tuple #[.func (.func 43) #[] #[],.bool true]) W by
  obtain ⟨v,ok,hrun,hc⟩:=LK.out B W h
  rcases hc with ⟨rfl,hv⟩|⟨_,_,hv⟩
  ·have:=hv .nil
   rw [ops_at] at this
   simp at this
   rw [hrun,←this]
   rfl
  ·have:=hv .nil
   rw [ops_at] at this
   simp at this))
 clear hzero hv hn ho LK
 obtain ⟨fl,m,f⟩:∃fl:Bool,∃m:Int,∃f:Nat,True:=⟨v.fl,v.n,v.f,trivial⟩
 generalize v.fl=fl at*;generalize v.n=m at*;generalize v.f=f at*
 go_enter Tryz.func19,Tryz.ntmps19
 have h0:(((w.alloc (.cells #[.int .i64 pos,.int .i64 6,.int .i64 n] 57)).alloc (.cells #[.bool fl,.int .i64 m,.float .f64 f] 63)).alloc (.map #[] 0)).ownsMap Tryz.prog 3 heldR (w.heap.size+1+1) 0 (.map []):=by
  have h:=World.ownsMap_made ((w.alloc (.cells #[.int .i64 pos,.int .i64 6,.int .i64 n] 57)).alloc (.cells #[.bool fl,.int .i64 m,.float .f64 f] 63)) Tryz.prog 3 heldR
  rw [show ((w.alloc (.cells #[.int .i64 pos,.int .i64 6,.int .i64 n] 57)).alloc (.cells #[.bool fl,.int .i64 m,.float .f64 f] 63)).heap.size=w.heap.size+1+1 by simp only [World.size_alloc]] at h
  exact h
 have HB:=hid (fun (A B C D E F G:World) (e:A=((w.alloc (.cells #[.int .i64 pos,.int .i64 6,.int .i64 n] 57)).alloc (.cells #[.bool fl,.int .i64 m,.float .f64 f] 63)).alloc (.map #[] 0)) (h1:A.grownBy B (some (w.heap.size+1+1))) (h2:B.grownBy C (some (w.heap.size+1+1))) (h3:C.grownBy D (some (w.heap.size+1+1))) (h4:D.grownBy E (some (w.heap.size+1+1))) (h5:E.grownBy F (some (w.heap.size+1+1))) (h6:F.grownBy G (some (w.heap.size+1+1)))=>grown_six (X:=((w.alloc (.cells #[.int .i64 pos,.int .i64 6,.int .i64 n] 57)).alloc (.cells #[.bool fl,.int .i64 m,.float .f64 f] 63))) (by simp only [World.size_alloc]) e h1 h2 h3 h4 h5 h6)
 go_wp2_with (first
  |(go_at_call 43;go_loud ((with_reducible refine (cond6_any _ _).mono ?_);rintro e x2 ⟨rfl,rfl⟩))
  |(go_at_call 21;go_loud ((with_reducible refine (CN.out _).mono ?_);rintro e x1 ⟨rfl,hb1⟩))
  |(refine wpList_insert_own _ rfl _ _ _ 91 rfl 3 89 (Maps.int_keyed Tryz.underlying3) Tryz.underlying91 heldR (w.heap.size+1+1) 5 _ rfl hown5 (by unfold maxLen;omega) _ _ (litI 6) rfl rfl (by first|rfl|kernel_rfl|decide) (.held (fnV 43)) [] rfl ?_;intro w6 hown6 hg6;have hbX:=HB.out _ _ _ _ _ _ _ rfl hg1 hg2 hg3 hg4 hg5 hg6;have HBX:=hid hbX;have hrun:=LR.out _ _ hown6;have c1:w6.cell? ⟨w.heap.size,1,none⟩=some (.int .i64 6):=cell_step (by go_simp) hbX;have c2:w6.cell? ⟨w.heap.size,2,none⟩=some (.int .i64 n):=cell_step (by go_simp) hbX;have d0:w6.cell? ⟨w.heap.size+1,0,none⟩=some (.bool fl):=cell_step (by go_simp) hbX;have d1:w6.cell? ⟨w.heap.size+1,1,none⟩=some (.int .i64 m):=cell_step (by go_simp) hbX;have d2:w6.cell? ⟨w.heap.size+1,2,none⟩=some (.float .f64 f):=cell_step (by go_simp) hbX;clear hbX hown1 hown2 hown3 hown4 hown5 hown6 hg1 hg2 hg3 hg4 hg5 hg6)
  |(refine wpList_insert_own _ rfl _ _ _ 91 rfl 3 89 (Maps.int_keyed Tryz.underlying3) Tryz.underlying91 heldR (w.heap.size+1+1) 4 _ rfl hown4 (by unfold maxLen;omega) _ _ (litI 5) rfl rfl (by first|rfl|kernel_rfl|decide) (.held (fnV 42)) [] rfl ?_;intro w5 hown5 hg5)
  |(refine wpList_insert_own _ rfl _ _ _ 91 rfl 3 89 (Maps.int_keyed Tryz.underlying3) Tryz.underlying91 heldR (w.heap.size+1+1) 3 _ rfl hown3 (by unfold maxLen;omega) _ _ (litI 4) rfl rfl (by first|rfl|kernel_rfl|decide) (.held (fnV 41)) [] rfl ?_;intro w4 hown4 hg4)
  |(refine wpList_insert_own _ rfl _ _ _ 91 rfl 3 89 (Maps.int_keyed Tryz.underlying3) Tryz.underlying91 heldR (w.heap.size+1+1) 2 _ rfl hown2 (by unfold maxLen;omega) _ _ (litI 3) rfl rfl (by first|rfl|kernel_rfl|decide) (.held (fnV 40)) [] rfl ?_;intro w3 hown3 hg3)
  |(refine wpList_insert_own _ rfl _ _ _ 91 rfl 3 89 (Maps.int_keyed Tryz.underlying3) Tryz.underlying91 heldR (w.heap.size+1+1) 1 _ rfl hown1 (by unfold maxLen;omega) _ _ (litI 2) rfl rfl (by first|rfl|kernel_rfl|decide) (.held (fnV 39)) [] rfl ?_;intro w2 hown2 hg2)
  |(refine wpList_insert_own _ rfl _ _ _ 91 rfl 3 89 (Maps.int_keyed Tryz.underlying3) Tryz.underlying91 heldR (w.heap.size+1+1) 0 _ rfl h0 (by unfold maxLen;omega) _ _ (litI 1) rfl rfl (by first|rfl|kernel_rfl|decide) (.held (fnV 38)) [] rfl ?_;intro w1 hown1 hg1))
 go_ways
 go_ret
 exact ⟨rfl,by have:=HBX.out;exact Gr⟩
set_option maxHeartbeats 2000000 in
theorem holds_0 (pos op n:Int) (hop:op≠1∧op≠2∧op≠3∧op≠4∧op≠5∧op≠6) (v:NumD) (hn:I64 n) (ho:I64 op) (hv:NumOk v) (w:World):
  Calls Tryz.prog 19 #[.agg #[.int .i64 pos,.int .i64 op,.int .i64 n],.agg #[.bool v.fl,.int .i64 v.n,.float .f64 v.f]] w fun e w'=>e= .returned (.bool (holdsB op n v))∧Below w.heap.size w w':=by
 have CN:=hid (fun W=>compare_num v ⟨n,false,0⟩ hv ⟨hn,(by decide:(0:Nat)<2^64)⟩ W)
 dsimp only at CN
 unfold holdsB
 generalize cmpN v ⟨n,false,0⟩=k at*
 have hkey:Hid (keyOf Tryz.prog 3 (.int .i64 op)=some (litI op)):=Maps.keyOf_int_mk Tryz.underlying3 (by unfold I64 at ho;simp [Lit.wf,IntKind.min,IntKind.max,IntKind.signed,IntKind.bits];omega)
 have hzero:∀W:World,(zeroValue 89).run Tryz.prog W= .ok .nilFunc W:=fun W=>by go_simp
 have HZ:=hid hzero
 have hmake:∀X,(Instr.makeMap 91 none).run Tryz.prog X= .ok (.map (some X.heap.size)) (X.alloc (.map #[] 0)):=fun X=>by first|exact run_makeMap X _ _ _ Tryz.underlying91|exact run_makeMap _ _|rfl
 have LK:=hid (fun (B:Nat) (W:World) (h:W.ownsMap Tryz.prog 3 heldR B 6 opsD)=>held_look h (Maps.int_keyed Tryz.underlying3) Tryz.underlying91 (HZ.out W) hkey.out)
 have LR:=hid (fun (B:Nat) (W:World) (h:W.ownsMap Tryz.prog 3 heldR B 6 opsD)=>(show (Instr.lookup 91 (.map (some B)) (.int .i64 op) true).run Tryz.prog W= .ok (.tuple #[.nilFunc,.bool false]) W by
  obtain ⟨v,ok,hrun,hc⟩:=LK.out B W h
  rcases hc with ⟨rfl,hv⟩|⟨rfl,rfl,_⟩
  ·have:=hv .nil
   rw [ops_at] at this
   simp [hop] at this
  ·exact hrun))
 have HCB:Hid (condB op k=false):=by unfold Hid condB;simp [hop]
 clear hop
 clear hzero hv hn ho LK
 obtain ⟨fl,m,f⟩:∃fl:Bool,∃m:Int,∃f:Nat,True:=⟨v.fl,v.n,v.f,trivial⟩
 generalize v.fl=fl at*;generalize v.n=m at*;generalize v.f=f at*
 go_enter Tryz.func19,Tryz.ntmps19
 have h0:(((w.alloc (.cells #[.int .i64 pos,.int .i64 op,.int .i64 n] 57)).alloc (.cells #[.bool fl,.int .i64 m,.float .f64 f] 63)).alloc (.map #[] 0)).ownsMap Tryz.prog 3 heldR (w.heap.size+1+1) 0 (.map []):=by
  have h:=World.ownsMap_made ((w.alloc (.cells #[.int .i64 pos,.int .i64 op,.int .i64 n] 57)).alloc (.cells #[.bool fl,.int .i64 m,.float .f64 f] 63)) Tryz.prog 3 heldR
  rw [show ((w.alloc (.cells #[.int .i64 pos,.int .i64 op,.int .i64 n] 57)).alloc (.cells #[.bool fl,.int .i64 m,.float .f64 f] 63)).heap.size=w.heap.size+1+1 by simp only [World.size_alloc]] at h
  exact h
 have HB:=hid (fun (A B C D E F G:World) (e:A=((w.alloc (.cells #[.int .i64 pos,.int .i64 op,.int .i64 n] 57)).alloc (.cells #[.bool fl,.int .i64 m,.float .f64 f] 63)).alloc (.map #[] 0)) (h1:A.grownBy B (some (w.heap.size+1+1))) (h2:B.grownBy C (some (w.heap.size+1+1))) (h3:C.grownBy D (some (w.heap.size+1+1))) (h4:D.grownBy E (some (w.heap.size+1+1))) (h5:E.grownBy F (some (w.heap.size+1+1))) (h6:F.grownBy G (some (w.heap.size+1+1)))=>grown_six (X:=((w.alloc (.cells #[.int .i64 pos,.int .i64 op,.int .i64 n] 57)).alloc (.cells #[.bool fl,.int .i64 m,.float .f64 f] 63))) (by simp only [World.size_alloc]) e h1 h2 h3 h4 h5 h6)
 go_wp2_with (first
  |(go_at_call 21;go_loud ((with_reducible refine (CN.out _).mono ?_);rintro e x1 ⟨rfl,hb1⟩))
  |(refine wpList_insert_own _ rfl _ _ _ 91 rfl 3 89 (Maps.int_keyed Tryz.underlying3) Tryz.underlying91 heldR (w.heap.size+1+1) 5 _ rfl hown5 (by unfold maxLen;omega) _ _ (litI 6) rfl rfl (by first|rfl|kernel_rfl|decide) (.held (fnV 43)) [] rfl ?_;intro w6 hown6 hg6;have hbX:=HB.out _ _ _ _ _ _ _ rfl hg1 hg2 hg3 hg4 hg5 hg6;have HBX:=hid hbX;have hrun:=LR.out _ _ hown6;have c1:w6.cell? ⟨w.heap.size,1,none⟩=some (.int .i64 op):=cell_step (by go_simp) hbX;have c2:w6.cell? ⟨w.heap.size,2,none⟩=some (.int .i64 n):=cell_step (by go_simp) hbX;have d0:w6.cell? ⟨w.heap.size+1,0,none⟩=some (.bool fl):=cell_step (by go_simp) hbX;have d1:w6.cell? ⟨w.heap.size+1,1,none⟩=some (.int .i64 m):=cell_step (by go_simp) hbX;have d2:w6.cell? ⟨w.heap.size+1,2,none⟩=some (.float .f64 f):=cell_step (by go_simp) hbX;clear hbX hown1 hown2 hown3 hown4 hown5 hown6 hg1 hg2 hg3 hg4 hg5 hg6)
  |(refine wpList_insert_own _ rfl _ _ _ 91 rfl 3 89 (Maps.int_keyed Tryz.underlying3) Tryz.underlying91 heldR (w.heap.size+1+1) 4 _ rfl hown4 (by unfold maxLen;omega) _ _ (litI 5) rfl rfl (by first|rfl|kernel_rfl|decide) (.held (fnV 42)) [] rfl ?_;intro w5 hown5 hg5)
  |(refine wpList_insert_own _ rfl _ _ _ 91 rfl 3 89 (Maps.int_keyed Tryz.underlying3) Tryz.underlying91 heldR (w.heap.size+1+1) 3 _ rfl hown3 (by unfold maxLen;omega) _ _ (litI 4) rfl rfl (by first|rfl|kernel_rfl|decide) (.held (fnV 41)) [] rfl ?_;intro w4 hown4 hg4)
  |(refine wpList_insert_own _ rfl _ _ _ 91 rfl 3 89 (Maps.int_keyed Tryz.underlying3) Tryz.underlying91 heldR (w.heap.size+1+1) 2 _ rfl hown2 (by unfold maxLen;omega) _ _ (litI 3) rfl rfl (by first|rfl|kernel_rfl|decide) (.held (fnV 40)) [] rfl ?_;intro w3 hown3 hg3)
  |(refine wpList_insert_own _ rfl _ _ _ 91 rfl 3 89 (Maps.int_keyed Tryz.underlying3) Tryz.underlying91 heldR (w.heap.size+1+1) 1 _ rfl hown1 (by unfold maxLen;omega) _ _ (litI 2) rfl rfl (by first|rfl|kernel_rfl|decide) (.held (fnV 39)) [] rfl ?_;intro w2 hown2 hg2)
  |(refine wpList_insert_own _ rfl _ _ _ 91 rfl 3 89 (Maps.int_keyed Tryz.underlying3) Tryz.underlying91 heldR (w.heap.size+1+1) 0 _ rfl h0 (by unfold maxLen;omega) _ _ (litI 1) rfl rfl (by first|rfl|kernel_rfl|decide) (.held (fnV 38)) [] rfl ?_;intro w1 hown1 hg1))
 go_ret
 exact ⟨by rw [HCB.out];rfl,by have:=HBX.out;exact Gr⟩
theorem holds_any (pos op n:Int) (v:NumD) (hn:I64 n) (ho:I64 op) (hv:NumOk v) (w:World):
  Calls Tryz.prog 19 #[.agg #[.int .i64 pos,.int .i64 op,.int .i64 n],.agg #[.bool v.fl,.int .i64 v.n,.float .f64 v.f]] w fun e w'=>e= .returned (.bool (holdsB op n v))∧Below w.heap.size w w':=by
 by_cases h1:op=1
 ·exact holds_1 pos op n h1 v hn ho hv w
 by_cases h2:op=2
 ·exact holds_2 pos op n h2 v hn ho hv w
 by_cases h3:op=3
 ·exact holds_3 pos op n h3 v hn ho hv w
 by_cases h4:op=4
 ·exact holds_4 pos op n h4 v hn ho hv w
 by_cases h5:op=5
 ·exact holds_5 pos op n h5 v hn ho hv w
 by_cases h6:op=6
 ·exact holds_6 pos op n h6 v hn ho hv w
 exact holds_0 pos op n ⟨h1,h2,h3,h4,h5,h6⟩ v hn ho hv w
end Go.Proofs.YtejleplhmkmegaaGreatDoor
