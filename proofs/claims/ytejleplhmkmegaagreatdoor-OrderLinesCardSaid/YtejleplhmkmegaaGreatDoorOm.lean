/- Texts joined: OsG. -/
import Derived.Test.YtejleplhmkmegaaGreatDoorOk
import Derived.Test.YtejleplhmkmegaaGreatDoorOl
set_option linter.unusedVariables false
set_option linter.unusedSimpArgs false
namespace Go.Proofs.YtejleplhmkmegaaGreatDoor
set_option maxRecDepth 100000
open Go.ChangeShapes Go.WideShapes Go.ChangeAt Go.RowKit Go.Fl Go.ChangeMaps Go.MapKept
open Go.Maps (Keyed)
structure FormD where
 hn:Bool
 hs:Bool
 w0:Int
 w1:Int
 f0:Int
 f1:Int
def FormD.val (f:FormD):Value:= .agg #[.bool f.hn,.bool f.hs,.int .i64 f.w0,.int .i64 f.w1,.int .i64 f.f0,.int .i64 f.f1]
def formOf (k:Int):Option FormD:=if k=1 then some ⟨false,false,0,0,0,0⟩ else if k=2 then some ⟨true,false,1,8,0,0⟩ else if k=3 then some ⟨true,false,0,0,0,0⟩ else if k=4 then some ⟨true,false,1,1,0,0⟩ else if k=5 then some ⟨true,false,2,2,0,0⟩ else if k=6 then some ⟨false,true,0,0,0,0⟩ else if k=7 then some ⟨false,false,0,0,1,1⟩ else if k=8 then some ⟨false,false,0,0,2,8⟩ else if k=9 then some ⟨false,false,0,0,2,8⟩ else none
abbrev formsD:DataW Value:=(DataW.put (DataW.put (DataW.put (DataW.put (DataW.put (DataW.put (DataW.put (DataW.put (DataW.put (.map []) (litI 1) (.held (.agg #[.bool false,.bool false,.int .i64 0,.int .i64 0,.int .i64 0,.int .i64 0]))) (litI 2) (.held (.agg #[.bool true,.bool false,.int .i64 1,.int .i64 8,.int .i64 0,.int .i64 0]))) (litI 3) (.held (.agg #[.bool true,.bool false,.int .i64 0,.int .i64 0,.int .i64 0,.int .i64 0]))) (litI 4) (.held (.agg #[.bool true,.bool false,.int .i64 1,.int .i64 1,.int .i64 0,.int .i64 0]))) (litI 5) (.held (.agg #[.bool true,.bool false,.int .i64 2,.int .i64 2,.int .i64 0,.int .i64 0]))) (litI 6) (.held (.agg #[.bool false,.bool true,.int .i64 0,.int .i64 0,.int .i64 0,.int .i64 0]))) (litI 7) (.held (.agg #[.bool false,.bool false,.int .i64 0,.int .i64 0,.int .i64 1,.int .i64 1]))) (litI 8) (.held (.agg #[.bool false,.bool false,.int .i64 0,.int .i64 0,.int .i64 2,.int .i64 8]))) (litI 9) (.held (.agg #[.bool false,.bool false,.int .i64 0,.int .i64 0,.int .i64 2,.int .i64 8])))
theorem forms_at (k:Int) (zd:DataW Value):formsD.atKey (litI k) zd=match formOf k with|some f=> .held f.val|none=>zd:=by
 have h:formsD= .map [(litI 1,.held (.agg #[.bool false,.bool false,.int .i64 0,.int .i64 0,.int .i64 0,.int .i64 0])),(litI 2,.held (.agg #[.bool true,.bool false,.int .i64 1,.int .i64 8,.int .i64 0,.int .i64 0])),(litI 3,.held (.agg #[.bool true,.bool false,.int .i64 0,.int .i64 0,.int .i64 0,.int .i64 0])),(litI 4,.held (.agg #[.bool true,.bool false,.int .i64 1,.int .i64 1,.int .i64 0,.int .i64 0])),(litI 5,.held (.agg #[.bool true,.bool false,.int .i64 2,.int .i64 2,.int .i64 0,.int .i64 0])),(litI 6,.held (.agg #[.bool false,.bool true,.int .i64 0,.int .i64 0,.int .i64 0,.int .i64 0])),(litI 7,.held (.agg #[.bool false,.bool false,.int .i64 0,.int .i64 0,.int .i64 1,.int .i64 1])),(litI 8,.held (.agg #[.bool false,.bool false,.int .i64 0,.int .i64 0,.int .i64 2,.int .i64 8])),(litI 9,.held (.agg #[.bool false,.bool false,.int .i64 0,.int .i64 0,.int .i64 2,.int .i64 8]))]:=by rfl
 rw [h]
 unfold DataW.atKey formOf
 simp only [List.find?,Lit.sameKey,litI,true_and]
 by_cases h1:k=1
 ·subst h1;rfl
 by_cases h2:k=2
 ·subst h2;rfl
 by_cases h3:k=3
 ·subst h3;rfl
 by_cases h4:k=4
 ·subst h4;rfl
 by_cases h5:k=5
 ·subst h5;rfl
 by_cases h6:k=6
 ·subst h6;rfl
 by_cases h7:k=7
 ·subst h7;rfl
 by_cases h8:k=8
 ·subst h8;rfl
 by_cases h9:k=9
 ·subst h9;rfl
 simp [h1,Ne.symm h1,h2,Ne.symm h2,h3,Ne.symm h3,h4,Ne.symm h4,h5,Ne.symm h5,h6,Ne.symm h6,h7,Ne.symm h7,h8,Ne.symm h8,h9,Ne.symm h9]
theorem grown_nine {X w0 w1 w2 w3 w4 w5 w6 w7 w8 w9:World} {b:Nat} (hb:X.heap.size=b) (e:w0=X.alloc (.map #[] 0)) (h1:w0.grownBy w1 (some b)) (h2:w1.grownBy w2 (some b)) (h3:w2.grownBy w3 (some b)) (h4:w3.grownBy w4 (some b)) (h5:w4.grownBy w5 (some b)) (h6:w5.grownBy w6 (some b)) (h7:w6.grownBy w7 (some b)) (h8:w7.grownBy w8 (some b)) (h9:w8.grownBy w9 (some b)):Below X.heap.size X w1∧Below X.heap.size X w2∧Below X.heap.size X w3∧Below X.heap.size X w4∧Below X.heap.size X w5∧Below X.heap.size X w6∧Below X.heap.size X w7∧Below X.heap.size X w8∧Below X.heap.size X w9:=by
 subst e
 have z0:Below X.heap.size X (X.alloc (.map #[] 0)):=(Below.refl _ _).alloc (Nat.le_refl _) _
 have z1:=z0.grown h1 z0.size (fun r e=>by cases e;omega)
 have z2:=z1.grown h2 z1.size (fun r e=>by cases e;omega)
 have z3:=z2.grown h3 z2.size (fun r e=>by cases e;omega)
 have z4:=z3.grown h4 z3.size (fun r e=>by cases e;omega)
 have z5:=z4.grown h5 z4.size (fun r e=>by cases e;omega)
 have z6:=z5.grown h6 z5.size (fun r e=>by cases e;omega)
 have z7:=z6.grown h7 z6.size (fun r e=>by cases e;omega)
 have z8:=z7.grown h8 z7.size (fun r e=>by cases e;omega)
 have z9:=z8.grown h9 z8.size (fun r e=>by cases e;omega)
 exact ⟨z1,z2,z3,z4,z5,z6,z7,z8,z9⟩
theorem le_of_some {a r n:Nat} (h:n≤a) (e:some a=some r):n≤r:=by rw [←Option.some.inj e];exact h
set_option maxHeartbeats 4000000 in
theorem forms_any (w:World):Calls Tryz.prog 222 #[] w fun e w'=>e= .returned (.map (some (w.heap.size+1)))∧w'.ownsMap Tryz.prog 3 heldR (w.heap.size+1) 9 formsD∧Below w.heap.size w w':=by
 have hmake:∀X,(Instr.makeMap 254 none).run Tryz.prog X= .ok (.map (some X.heap.size)) (X.alloc (.map #[] 0)):=fun X=>by first|exact run_makeMap X _ _ _ Tryz.underlying254|exact run_makeMap _ _|rfl
 go_enter Tryz.func222,Tryz.ntmps222
 have h0:((w.alloc (.cells #[.int .i64 2,.int .i64 8] 250)).alloc (.map #[] 0)).ownsMap Tryz.prog 3 heldR (w.heap.size+1) 0 (.map []):=by
  have h:=World.ownsMap_made (w.alloc (.cells #[.int .i64 2,.int .i64 8] 250)) Tryz.prog 3 heldR
  rw [show (w.alloc (.cells #[.int .i64 2,.int .i64 8] 250)).heap.size=w.heap.size+1 by simp only [World.size_alloc]] at h
  exact h
 have HB:=hid (fun (w0 w1 w2 w3 w4 w5 w6 w7 w8 w9:World) (e:w0=(w.alloc (.cells #[.int .i64 2,.int .i64 8] 250)).alloc (.map #[] 0)) (h1:w0.grownBy w1 (some (w.heap.size+1))) (h2:w1.grownBy w2 (some (w.heap.size+1))) (h3:w2.grownBy w3 (some (w.heap.size+1))) (h4:w3.grownBy w4 (some (w.heap.size+1))) (h5:w4.grownBy w5 (some (w.heap.size+1))) (h6:w5.grownBy w6 (some (w.heap.size+1))) (h7:w6.grownBy w7 (some (w.heap.size+1))) (h8:w7.grownBy w8 (some (w.heap.size+1))) (h9:w8.grownBy w9 (some (w.heap.size+1)))=>grown_nine (X:=(w.alloc (.cells #[.int .i64 2,.int .i64 8] 250))) (by simp only [World.size_alloc]) e h1 h2 h3 h4 h5 h6 h7 h8 h9)
 have HX:Hid ((w.alloc (.cells #[.int .i64 2,.int .i64 8] 250)).cell? ⟨w.heap.size,0,none⟩=some (.int .i64 2)∧(w.alloc (.cells #[.int .i64 2,.int .i64 8] 250)).cell? ⟨w.heap.size,1,none⟩=some (.int .i64 8)):=by unfold Hid;constructor<;>go_simp
 have HXS:Hid ((w.alloc (.cells #[.int .i64 2,.int .i64 8] 250)).heap.size≤w.heap.size+1):=by unfold Hid;simp
 have HBX:Hid (Below w.heap.size w (w.alloc (.cells #[.int .i64 2,.int .i64 8] 250))):=by unfold Hid;exact Gr
 go_wp2_with (first
  |(refine wpList_insert_own _ rfl _ _ _ 254 rfl 3 252 (Maps.int_keyed Tryz.underlying3) Tryz.underlying254 heldR (w.heap.size+1) 8 _ rfl hown8 (by unfold maxLen;omega) _ _ (litI 9) rfl rfl (by first|rfl|kernel_rfl|decide) (.held (.agg #[.bool false,.bool false,.int .i64 0,.int .i64 0,.int .i64 2,.int .i64 8])) [] rfl ?_;intro w9 hown9 hg9)
  |(refine wpList_insert_own _ rfl _ _ _ 254 rfl 3 252 (Maps.int_keyed Tryz.underlying3) Tryz.underlying254 heldR (w.heap.size+1) 7 _ rfl hown7 (by unfold maxLen;omega) _ _ (litI 8) rfl rfl (by first|rfl|kernel_rfl|decide) (.held (.agg #[.bool false,.bool false,.int .i64 0,.int .i64 0,.int .i64 2,.int .i64 8])) [] rfl ?_;intro w8 hown8 hg8;have zb8:Below (w.alloc (.cells #[.int .i64 2,.int .i64 8] 250)).heap.size (w.alloc (.cells #[.int .i64 2,.int .i64 8] 250)) w8:=(by have y0:Below (w.alloc (.cells #[.int .i64 2,.int .i64 8] 250)).heap.size (w.alloc (.cells #[.int .i64 2,.int .i64 8] 250)) ((w.alloc (.cells #[.int .i64 2,.int .i64 8] 250)).alloc (.map #[] 0)):=(Below.refl _ _).alloc (Nat.le_refl _) _;have y1:=y0.grown hg1 y0.size (fun r e=>le_of_some HXS.out e);have y2:=y1.grown hg2 y1.size (fun r e=>le_of_some HXS.out e);have y3:=y2.grown hg3 y2.size (fun r e=>le_of_some HXS.out e);have y4:=y3.grown hg4 y3.size (fun r e=>le_of_some HXS.out e);have y5:=y4.grown hg5 y4.size (fun r e=>le_of_some HXS.out e);have y6:=y5.grown hg6 y5.size (fun r e=>le_of_some HXS.out e);have y7:=y6.grown hg7 y6.size (fun r e=>le_of_some HXS.out e);have y8:=y7.grown hg8 y7.size (fun r e=>le_of_some HXS.out e);exact y8);have a8:=cell_step HX.out.1 zb8;have e8:=cell_step HX.out.2 zb8;clear zb8)
  |(refine wpList_insert_own _ rfl _ _ _ 254 rfl 3 252 (Maps.int_keyed Tryz.underlying3) Tryz.underlying254 heldR (w.heap.size+1) 6 _ rfl hown6 (by unfold maxLen;omega) _ _ (litI 7) rfl rfl (by first|rfl|kernel_rfl|decide) (.held (.agg #[.bool false,.bool false,.int .i64 0,.int .i64 0,.int .i64 1,.int .i64 1])) [] rfl ?_;intro w7 hown7 hg7;have zb7:Below (w.alloc (.cells #[.int .i64 2,.int .i64 8] 250)).heap.size (w.alloc (.cells #[.int .i64 2,.int .i64 8] 250)) w7:=(by have y0:Below (w.alloc (.cells #[.int .i64 2,.int .i64 8] 250)).heap.size (w.alloc (.cells #[.int .i64 2,.int .i64 8] 250)) ((w.alloc (.cells #[.int .i64 2,.int .i64 8] 250)).alloc (.map #[] 0)):=(Below.refl _ _).alloc (Nat.le_refl _) _;have y1:=y0.grown hg1 y0.size (fun r e=>le_of_some HXS.out e);have y2:=y1.grown hg2 y1.size (fun r e=>le_of_some HXS.out e);have y3:=y2.grown hg3 y2.size (fun r e=>le_of_some HXS.out e);have y4:=y3.grown hg4 y3.size (fun r e=>le_of_some HXS.out e);have y5:=y4.grown hg5 y4.size (fun r e=>le_of_some HXS.out e);have y6:=y5.grown hg6 y5.size (fun r e=>le_of_some HXS.out e);have y7:=y6.grown hg7 y6.size (fun r e=>le_of_some HXS.out e);exact y7);have a7:=cell_step HX.out.1 zb7;have e7:=cell_step HX.out.2 zb7;clear zb7)
  |(refine wpList_insert_own _ rfl _ _ _ 254 rfl 3 252 (Maps.int_keyed Tryz.underlying3) Tryz.underlying254 heldR (w.heap.size+1) 5 _ rfl hown5 (by unfold maxLen;omega) _ _ (litI 6) rfl rfl (by first|rfl|kernel_rfl|decide) (.held (.agg #[.bool false,.bool true,.int .i64 0,.int .i64 0,.int .i64 0,.int .i64 0])) [] rfl ?_;intro w6 hown6 hg6)
  |(refine wpList_insert_own _ rfl _ _ _ 254 rfl 3 252 (Maps.int_keyed Tryz.underlying3) Tryz.underlying254 heldR (w.heap.size+1) 4 _ rfl hown4 (by unfold maxLen;omega) _ _ (litI 5) rfl rfl (by first|rfl|kernel_rfl|decide) (.held (.agg #[.bool true,.bool false,.int .i64 2,.int .i64 2,.int .i64 0,.int .i64 0])) [] rfl ?_;intro w5 hown5 hg5)
  |(refine wpList_insert_own _ rfl _ _ _ 254 rfl 3 252 (Maps.int_keyed Tryz.underlying3) Tryz.underlying254 heldR (w.heap.size+1) 3 _ rfl hown3 (by unfold maxLen;omega) _ _ (litI 4) rfl rfl (by first|rfl|kernel_rfl|decide) (.held (.agg #[.bool true,.bool false,.int .i64 1,.int .i64 1,.int .i64 0,.int .i64 0])) [] rfl ?_;intro w4 hown4 hg4)
  |(refine wpList_insert_own _ rfl _ _ _ 254 rfl 3 252 (Maps.int_keyed Tryz.underlying3) Tryz.underlying254 heldR (w.heap.size+1) 2 _ rfl hown2 (by unfold maxLen;omega) _ _ (litI 3) rfl rfl (by first|rfl|kernel_rfl|decide) (.held (.agg #[.bool true,.bool false,.int .i64 0,.int .i64 0,.int .i64 0,.int .i64 0])) [] rfl ?_;intro w3 hown3 hg3)
  |(refine wpList_insert_own _ rfl _ _ _ 254 rfl 3 252 (Maps.int_keyed Tryz.underlying3) Tryz.underlying254 heldR (w.heap.size+1) 1 _ rfl hown1 (by unfold maxLen;omega) _ _ (litI 2) rfl rfl (by first|rfl|kernel_rfl|decide) (.held (.agg #[.bool true,.bool false,.int .i64 1,.int .i64 8,.int .i64 0,.int .i64 0])) [] rfl ?_;intro w2 hown2 hg2)
  |(refine wpList_insert_own _ rfl _ _ _ 254 rfl 3 252 (Maps.int_keyed Tryz.underlying3) Tryz.underlying254 heldR (w.heap.size+1) 0 _ rfl h0 (by unfold maxLen;omega) _ _ (litI 1) rfl rfl (by first|rfl|kernel_rfl|decide) (.held (.agg #[.bool false,.bool false,.int .i64 0,.int .i64 0,.int .i64 0,.int .i64 0])) [] rfl ?_;intro w1 hown1 hg1))
 go_ret
 have hb:=HB.out _ _ _ _ _ _ _ _ _ _ rfl hg1 hg2 hg3 hg4 hg5 hg6 hg7 hg8 hg9
 exact ⟨rfl,hown9,HBX.out.trans (hb.2.2.2.2.2.2.2.2.mono (by simp))⟩
end Go.Proofs.YtejleplhmkmegaaGreatDoor
