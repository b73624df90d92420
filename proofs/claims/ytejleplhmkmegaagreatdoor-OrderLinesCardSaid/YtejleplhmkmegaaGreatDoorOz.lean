/- Texts joined: OuC. -/
import Derived.Test.YtejleplhmkmegaaGreatDoorOl
import Derived.Test.YtejleplhmkmegaaGreatDoorOe
set_option linter.unusedVariables false
set_option linter.unusedSimpArgs false
namespace Go.Proofs.YtejleplhmkmegaaGreatDoor
set_option maxRecDepth 100000
open Go.ChangeShapes Go.WideShapes Go.ChangeAt Go.RowKit Go.Fl
attribute [local go_sem] run_store_float run_equalIn_float
theorem refFloat18_any (v:NumD) (h:NumOk v) (w:World):Calls Tryz.prog 147 #[.agg #[.bool v.fl,.int .i64 v.n,.float .f64 v.f]] w fun e w'=>e= .returned (.float .f64 (floatD v))∧Below w.heap.size w w':=by
 obtain ⟨n,fl,f⟩:=v
 have O1:=hid (fun W=>refOf_any n h.1 W)
 have F1:=hid (fun W=>rfloat_any n (i128_64 h.1) W)
 obtain ⟨v1,hv1⟩:∃v,(Value.agg #[.int .i64 (hiW (n)),.int .u64 (loW (n))])=v:=⟨_,rfl⟩
 rw [hv1] at O1 F1
 clear hv1
 unfold floatD
 dsimp only
 cases fl
 ·rw [if_neg (by simp)]
  generalize ofF n 1=F at*
  clear h
  go_enter Tryz.func147,Tryz.ntmps147
  go_wp2_with (first
   |(go_at_call 139;go_loud ((with_reducible refine (O1.out _).mono ?_);rintro e w1 ⟨rfl,hb1⟩))
   |(go_at_call 197;go_loud ((with_reducible refine (F1.out _).mono ?_);rintro e w2 ⟨rfl,hb2⟩)))
  go_ret
  exact ⟨rfl,Gr⟩
 ·rw [if_pos rfl]
  clear h
  go_enter Tryz.func147,Tryz.ntmps147
  go_wp2
  go_ret
  exact ⟨rfl,Gr⟩
theorem refCmp18_core (fl gl:Bool) (n m:Int) (f g F G:Nat) (y:Int)
  (FA:Hid (∀W,Calls Tryz.prog 147 #[.agg #[.bool fl,.int .i64 n,.float .f64 f]] W fun e w'=>e= .returned (.float .f64 F)∧Below W.heap.size W w'))
  (CF:Hid (∀W,Calls Tryz.prog 146 #[.float .f64 F,.float .f64 G] W fun e w'=>e= .returned (.int .i64 y)∧Below W.heap.size W w'))
  (FB:Hid (∀W,Calls Tryz.prog 147 #[.agg #[.bool gl,.int .i64 m,.float .f64 g]] W fun e w'=>e= .returned (.float .f64 G)∧Below W.heap.size W w'))
  (h:(fl||gl)=true) (w:World):
  Calls Tryz.prog 76 #[.agg #[.bool fl,.int .i64 n,.float .f64 f],.agg #[.bool gl,.int .i64 m,.float .f64 g]] w fun e w'=>e= .returned (.int .i64 y)∧Below w.heap.size w w':=by
 obtain ⟨X,hX⟩:∃X,(w.alloc (.cells #[.bool fl,.int .i64 n,.float .f64 f] 63)).alloc (.cells #[.bool gl,.int .i64 m,.float .f64 g] 63)=X:=⟨_,rfl⟩
 have hB:Below w.heap.size w X:=by rw [←hX];exact Gr
 have a0:X.cell? ⟨w.heap.size,0,none⟩=some (.bool fl):=by subst hX;go_simp
 have a1:X.cell? ⟨w.heap.size,1,none⟩=some (.int .i64 n):=by subst hX;go_simp
 have a2:X.cell? ⟨w.heap.size,2,none⟩=some (.float .f64 f):=by subst hX;go_simp
 have b0:X.cell? ⟨w.heap.size+1,0,none⟩=some (.bool gl):=by subst hX;go_simp
 have b1:X.cell? ⟨w.heap.size+1,1,none⟩=some (.int .i64 m):=by subst hX;go_simp
 have b2:X.cell? ⟨w.heap.size+1,2,none⟩=some (.float .f64 g):=by subst hX;go_simp
 have p0:=World.plus_cell a0;have p1:=World.plus_cell a1;have p2:=World.plus_cell a2
 have q0:=World.plus_cell b0;have q1:=World.plus_cell b1;have q2:=World.plus_cell b2
 go_enter Tryz.func76,Tryz.ntmps76
 cases fl
 ·have hgl:gl=true:=h
  subst hgl
  go_wp2_with fail
  try rw [hX]
  clear hX a0 a1 a2 b0 b1 b2
  refine wp_region_plus (by kernel_rfl) (by kernel_rfl) ?_
  repeat (first|go_big_quiet_skip|(go_big_quiet_want;go_big_quiet_op;first|go_big_quiet_on|go_big_quiet_call ((first|(go_at_call 147;first|(with_reducible exact Calls.plus_of (FA.out _))|(with_reducible exact Calls.plus_of (FB.out _)))|(go_at_call 146;exact Calls.plus_of (CF.out _))))))
  refine wpQuiet_nil ?_
  rintro _ ⟨xq,rfl⟩
  have kB:=World.plus_below X xq
  go_wp2
  go_ret
  exact ⟨rfl,hB.trans (kB.mono hB.size)⟩
 ·go_wp2_with fail
  try rw [hX]
  clear hX a0 a1 a2 b0 b1 b2
  refine wp_region_plus (by kernel_rfl) (by kernel_rfl) ?_
  repeat (first|go_big_quiet_skip|(go_big_quiet_want;go_big_quiet_op;first|go_big_quiet_on|go_big_quiet_call ((first|(go_at_call 147;first|(with_reducible exact Calls.plus_of (FA.out _))|(with_reducible exact Calls.plus_of (FB.out _)))|(go_at_call 146;exact Calls.plus_of (CF.out _))))))
  refine wpQuiet_nil ?_
  rintro _ ⟨xq,rfl⟩
  have kB:=World.plus_below X xq
  go_wp2
  go_ret
  exact ⟨rfl,hB.trans (kB.mono hB.size)⟩
theorem refCompare18_any (a b:NumD) (ha:NumOk a) (hb:NumOk b) (w:World):
  Calls Tryz.prog 76 #[.agg #[.bool a.fl,.int .i64 a.n,.float .f64 a.f],.agg #[.bool b.fl,.int .i64 b.n,.float .f64 b.f]] w fun e w'=>e= .returned (.int .i64 (cmpN a b))∧Below w.heap.size w w':=by
 have FA:=hid (fun W=>refFloat18_any a ha W);have FB:=hid (fun W=>refFloat18_any b hb W)
 have CF:Hid (∀W,Calls Tryz.prog 146 #[.float .f64 (floatD a),.float .f64 (floatD b)] W fun e w'=>e= .returned (.int .i64 (sgnI (keyI (floatD a)) (keyI (floatD b))))∧Below W.heap.size W w'):=fun W=>(rcompare_any (floatD a) (floatD b) (floatD_lt ha) (floatD_lt hb) W).mono fun e w' h=>⟨h.1,by rw [h.2];exact Below.refl _ _⟩
 obtain ⟨n,fl,f⟩:=a
 obtain ⟨m,gl,g⟩:=b
 unfold cmpN
 dsimp only at FA FB CF ⊢
 generalize sgnI (keyI (floatD ⟨n,fl,f⟩)) (keyI (floatD ⟨m,gl,g⟩))=y at*
 generalize floatD ⟨n,fl,f⟩=F at*;generalize floatD ⟨m,gl,g⟩=G at*
 clear ha hb
 by_cases hfl:(fl||gl)=true
 ·rw [if_pos hfl]
  exact refCmp18_core fl gl n m f g F G y FA CF FB hfl w
 ·rw [if_neg hfl]
  have hcase:fl=false∧gl=false:=by cases fl<;>cases gl<;>simp_all
  obtain ⟨rfl,rfl⟩:=hcase
  clear hfl
  unfold sgnI
  rcases Int.lt_trichotomy n m with h|h|h
  ·have h1:decide (n<m)=true:=by simpa using h
   rw [if_pos h]
   go_enter Tryz.func76,Tryz.ntmps76
   go_wp2
   go_ret
   exact ⟨rfl,Gr⟩
  ·subst h
   rw [if_neg (Int.lt_irrefl _)]
   simp only [if_neg (Int.lt_irrefl n)]
   have h1:decide (n<n)=false:=by simp
   go_enter Tryz.func76,Tryz.ntmps76
   go_wp2
   go_ret
   exact ⟨by first|rfl|simp,Gr⟩
  ·have h1:decide (n<m)=false:=by simp;omega
   have h2:decide (m<n)=true:=by simpa using h
   rw [if_neg (by omega)]
   first|rw [if_pos h]|rw [if_neg (by omega)]
   go_enter Tryz.func76,Tryz.ntmps76
   go_wp2
   go_ret
   exact ⟨by first|rfl|simp,Gr⟩
end Go.Proofs.YtejleplhmkmegaaGreatDoor
