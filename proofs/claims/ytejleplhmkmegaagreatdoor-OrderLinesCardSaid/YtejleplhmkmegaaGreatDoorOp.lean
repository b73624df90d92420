/- Texts joined: AsR, OsO, OsP, OsQ. -/
import Derived.Test.YtejleplhmkmegaaGreatDoorOa
import Derived.Test.YtejleplhmkmegaaGreatDoorChecked
import Derived.WalkKit
import Derived.LaidEql
import Derived.Stop.Asserts
import Derived.RowKitTokens
import Derived.Test.YtejleplhmkmegaaGreatDoorOk
import Derived.Test.YtejleplhmkmegaaGreatDoorOo
import Derived.Test.YtejleplhmkmegaaGreatDoorOl
set_option linter.unusedVariables false
set_option linter.unusedSimpArgs false
namespace Go.Proofs.YtejleplhmkmegaaGreatDoor
open Go.RowKit Go.Extern.Stop Go.Stop Go.Extern
theorem asg_valueOf27 (t:Addr) (w:World):(ReflectliteValue.unpack (.iface 180 (.pointer (some t)))).run Tryz.prog w
  = .ok (.agg #[.pointer (some ⟨8,180,none⟩),.pointer (some ⟨w.heap.size,0,none⟩),.int .u64 150]) (w.alloc (.cells #[.pointer (some t)] 180)):=by kernel_rfl
theorem asg_type27 (a : Addr) (w : World) : (ReflectliteValue.methodAny (ReflectliteValue.valueError "reflectlite.Value.Type" 0) (fun t _ _ _ => ReflectliteType.toType t) #[.agg #[.pointer (some ⟨8, 180, none⟩), .pointer (some a), .int .u64 150]]).run Tryz.prog w
  = .ok (.iface 265 (.agg #[.pointer (some ⟨8,180,none⟩)])) w:=by kernel_rfl
theorem asg_methodKind (h : Value) (w : World) : (Go.method 319 265 (.agg #[h]) "Kind").run Tryz.prog w = .ok (257, h) w := by kernel_rfl
theorem asg_kind27 (w:World):((ReflectliteType.abiMethod fun t=>(fun a:Nat=>Value.int IntKind.u8 (a:Int))<$>Rtype.kind t) #[.pointer (some ⟨8,180,none⟩)]).run Tryz.prog w= .ok (.int .u8 22) w:=by kernel_rfl
theorem asg_kind25 (w:World):((ReflectliteType.abiMethod fun t=>(fun a:Nat=>Value.int IntKind.u8 (a:Int))<$>Rtype.kind t) #[.pointer (some ⟨8,177,none⟩)]).run Tryz.prog w= .ok (.int .u8 25) w:=by kernel_rfl
/-! ### THE ENTRIES THAT READ OR WRITE MEMORY:laws with a premise on the cell (after Derived/Lib/ReflectliteSlice.lean's manner:each unfolding a lemma of its own,by rfl) -/
theorem rlmG (z:Sem Value) (f:TypeId→Addr→Nat→Nat→Sem Value) (v:Value):
  ReflectliteValue.method z f #[v]=(do match ←ReflectliteValue.parts v with|none=>z|some (t,a,fl)=>f t a fl (fl % 32)):=rfl
theorem asg_parts27 (a:Addr) (w:World):(ReflectliteValue.parts (.agg #[.pointer (some ⟨8,180,none⟩),.pointer (some a),.int .u64 150])).run Tryz.prog w= .ok (some (180,a,150)) w:=by kernel_rfl
theorem asg_isNil27 (a p:Addr) (W:World) (ha:W.cell? a=some (.pointer (some p))):
  (ReflectliteValue.method (ReflectliteValue.valueError "reflectlite.Value.IsNil" 0) ReflectliteValue.isNil #[.agg #[.pointer (some ⟨8, 180, none⟩), .pointer (some a), .int .u64 150]]).run Tryz.prog W = .ok (.bool false) W := by
 rw [rlmG]
 simp only [Sem.run_bind,asg_parts27,Result.andThen]
 simp [ReflectliteValue.isNil,loadVar,isAgg,underlying,Tryz.underlying180,ha,Result.andThen]
theorem asg_methodElem (h : Value) (w : World) : (Go.method 319 265 (.agg #[h]) "Elem").run Tryz.prog w = .ok (268, .agg #[h]) w := by kernel_rfl
theorem asg_methodImplements (h : Value) (w : World) : (Go.method 319 265 (.agg #[h]) "Implements").run Tryz.prog w = .ok (269, .agg #[h]) w := by kernel_rfl
theorem asg_methodAssignableTo (h : Value) (w : World) : (Go.method 319 265 (.agg #[h]) "AssignableTo").run Tryz.prog w = .ok (266, .agg #[h]) w := by kernel_rfl
theorem asg_elem27 (w:World):(ReflectliteType.method ReflectliteType.elem #[.agg #[.pointer (some ⟨8,180,none⟩)]]).run Tryz.prog w= .ok (.iface 265 (.agg #[.pointer (some ⟨8,177,none⟩)])) w:=by kernel_rfl
theorem asg_implements25 (w : World) : (ReflectliteType.relation "Implements" ReflectliteType.implements_ #[.agg #[.pointer (some ⟨8, 177, none⟩)], .iface 265 (.agg #[.pointer (some ⟨8, 118, none⟩)])]).run Tryz.prog w = .ok (.bool true) w := by kernel_rfl
theorem asg_typeOf25 (v:Value) (w:World):(ReflectliteType.typeOf #[.iface 177 v]).run Tryz.prog w= .ok (.iface 265 (.agg #[.pointer (some ⟨8,177,none⟩)])) w:=by kernel_rfl
theorem asg_assignable25 (w : World) : (ReflectliteType.relation "AssignableTo" ReflectliteType.assignableTo #[.agg #[.pointer (some ⟨8, 177, none⟩)], .iface 265 (.agg #[.pointer (some ⟨8, 177, none⟩)])]).run Tryz.prog w = .ok (.bool true) w := by kernel_rfl
theorem asg_valueOf25 (n:Int) (w:World):(ReflectliteValue.unpack (.iface 177 (.agg #[.int .i64 n]))).run Tryz.prog w
  = .ok (.agg #[.pointer (some ⟨8,177,none⟩),.pointer (some ⟨w.heap.size,0,none⟩),.int .u64 153]) (w.alloc (.cells #[.int .i64 n] 177)):=by kernel_rfl
theorem asg_elemOf27 (w:World):(Rtype.elem? 180).run Tryz.prog w= .ok (some 177) w:=by kernel_rfl
theorem asg_mk25 (p:Addr) (w:World):(ReflectliteValue.mk 177 p ReflectliteValue.flagAddr).run Tryz.prog w= .ok (.agg #[.pointer (some ⟨8,177,none⟩),.pointer (some p),.int .u64 409]) w:=by kernel_rfl
theorem asg_elemV27 (a p:Addr) (W:World) (ha:W.cell? a=some (.pointer (some p))):
  (ReflectliteValue.method (ReflectliteValue.valueError "reflectlite.Value.Elem" 0) ReflectliteValue.elem #[.agg #[.pointer (some ⟨8, 180, none⟩), .pointer (some a), .int .u64 150]]).run Tryz.prog W
   = .ok (.agg #[.pointer (some ⟨8,177,none⟩),.pointer (some p),.int .u64 409]) W:=by
 rw [rlmG]
 simp only [Sem.run_bind,asg_parts27,Result.andThen]
 simp [ReflectliteValue.elem,loadVar,isAgg,underlying,Tryz.underlying180,ha,Result.andThen,asg_elemOf27,asg_mk25]
theorem rlsG (v x:Value):ReflectliteValue.set #[v,x]=(do
  let (some (dst,a,fl),some (src,b,_)):=(←ReflectliteValue.parts v,←ReflectliteValue.parts x)
   | unsupported (.noEntry "extern/(internal/reflectlite.Value).Set.zeroValue")
  if fl / ReflectliteValue.flagAddr % 2 == 0 then unsupported (.noEntry "extern/(internal/reflectlite.Value).Set.unaddressable")
  let val ←loadVar src b
  if ←Rtype.directlyAssignable dst src then storeVar dst a val
  else if ←Rtype.implements dst src then
   if (←Rtype.kind src)==20 then
    match val with
    | .nilIface => unsupported (.noEntry "extern/reflectlite: a nil value of one interface type handed on as a value of another")
    |_=>storeVar dst a val
   else storeVar dst a (.iface src val)
  else panicString ("reflectlite.Set: value of type " ++ (← Rtype.spelt src) ++ " is not assignable to type " ++ (← Rtype.spelt dst))
  pure (.tuple #[])):=rfl
theorem asg_parts25a (a:Addr) (w:World):(ReflectliteValue.parts (.agg #[.pointer (some ⟨8,177,none⟩),.pointer (some a),.int .u64 409])).run Tryz.prog w= .ok (some (177,a,409)) w:=by kernel_rfl
theorem asg_parts25 (a:Addr) (w:World):(ReflectliteValue.parts (.agg #[.pointer (some ⟨8,177,none⟩),.pointer (some a),.int .u64 153])).run Tryz.prog w= .ok (some (177,a,153)) w:=by kernel_rfl
theorem asg_direct25 (w:World):(Rtype.directlyAssignable 177 177).run Tryz.prog w= .ok true w:=by kernel_rfl
theorem asg_size25 (w:World):(sizeOf 177).run Tryz.prog w= .ok 1 w:=by kernel_rfl
theorem asg_load25 (b:Addr) (n:Int) (W:World) (hb:W.cell? b=some (.int .i64 n)):(loadVar 177 b).run Tryz.prog W= .ok (.agg #[.int .i64 n]) W:=by
 simp [loadVar,isAgg,underlying,Tryz.underlying177,asg_size25,loadCells,loadCellsFrom,Addr.add,hb,Result.andThen]
theorem asg_store25 (a:Addr) (n:Int) (old:Value) (W:World) (ht:W.cell? a=some old) (hf:W.frozen? a=false):(storeVar 177 a (.agg #[.int .i64 n])).run Tryz.prog W= .ok () (W.setCell a (.int .i64 n)):=by
 simp [storeVar,Value.cells,asg_size25,storeCells,Addr.add,Result.andThen]
 rw [run_store Tryz.prog W a _ _ (by rfl)]
 simp [ht,hf]
theorem asg_set25 (ta b:Addr) (n:Int) (old:Value) (W:World) (hb:W.cell? b=some (.int .i64 n)) (ht:W.cell? ta=some old) (hf:W.frozen? ta=false):
  (ReflectliteValue.set #[.agg #[.pointer (some ⟨8,177,none⟩),.pointer (some ta),.int .u64 409],.agg #[.pointer (some ⟨8,177,none⟩),.pointer (some b),.int .u64 153]]).run Tryz.prog W
   = .ok (.tuple #[]) (W.setCell ta (.int .i64 n)):=by
 rw [rlsG]
 simp only [Sem.run_bind,asg_parts25a,asg_parts25,Result.andThen]
 simp [ReflectliteValue.flagAddr,asg_load25 _ _ _ hb,Result.andThen,asg_direct25,asg_store25 _ _ _ _ ht hf]
set_option maxHeartbeats 4000000 in
theorem asg_hit (n:Int) (t:Addr) (old:Value) (w:World) (hg:w.cell? ⟨4,0,none⟩=some (.iface 265 (.agg #[.pointer (some ⟨8,118,none⟩)]))) (ht0:w.cell? t=some old) (hf0:w.frozen? t=false):
  Calls Tryz.prog 127 #[.iface 177 (.agg #[.int .i64 n]),.iface 180 (.pointer (some t))] w fun ev w'=>ev= .returned (.bool true)∧w'=((((w.alloc (.cells #[.pointer (some t)] 180)).alloc (.cells #[.pointer (some ⟨8,180,none⟩),.pointer (some ⟨w.heap.size,0,none⟩),.int .u64 150] 220)).alloc (.cells #[.pointer (some ⟨8,180,none⟩),.pointer (some ⟨w.heap.size,0,none⟩),.int .u64 150] 220)).alloc (.cells #[.int .i64 n] 177)).setCell t (.int .i64 n):=by
 have h6:= @run_callFunc_extern Tryz.prog 188 _ (fun args=>ReflectliteValue.unpack (args.getD 0 (.tuple #[]))) Tryz.func188 (by kernel_rfl) (by kernel_rfl) (by kernel_rfl) (by kernel_rfl)
 have h7 := @run_callFunc_extern Tryz.prog 189 _ (ReflectliteValue.methodAny (ReflectliteValue.valueError "reflectlite.Value.Type" 0) (fun t _ _ _ => ReflectliteType.toType t)) Tryz.func189 (by kernel_rfl) (by kernel_rfl) (by kernel_rfl) (by kernel_rfl)
 have h8 := @run_callFunc_extern Tryz.prog 190 _ (ReflectliteValue.method (ReflectliteValue.valueError "reflectlite.Value.IsNil" 0) ReflectliteValue.isNil) Tryz.func190 (by kernel_rfl) (by kernel_rfl) (by kernel_rfl) (by kernel_rfl)
 have h27:= @run_callFunc_extern Tryz.prog 257 _ (ReflectliteType.abiMethod fun t=>do pure (.int .u8 (←Rtype.kind t))) Tryz.func257 (by kernel_rfl) (by kernel_rfl) (by kernel_rfl) (by kernel_rfl)
 have h37:= @run_callFunc_extern Tryz.prog 268 _ (ReflectliteType.method ReflectliteType.elem) Tryz.func268 (by kernel_rfl) (by kernel_rfl) (by kernel_rfl) (by kernel_rfl)
 have h38 := @run_callFunc_extern Tryz.prog 269 _ (ReflectliteType.relation "Implements" ReflectliteType.implements_) Tryz.func269 (by kernel_rfl) (by kernel_rfl) (by kernel_rfl) (by kernel_rfl)
 have h10:= @run_callFunc_extern Tryz.prog 218 _ ReflectliteType.typeOf Tryz.func218 (by kernel_rfl) (by kernel_rfl) (by kernel_rfl) (by kernel_rfl)
 have h35 := @run_callFunc_extern Tryz.prog 266 _ (ReflectliteType.relation "AssignableTo" ReflectliteType.assignableTo) Tryz.func266 (by kernel_rfl) (by kernel_rfl) (by kernel_rfl) (by kernel_rfl)
 have h11 := @run_callFunc_extern Tryz.prog 229 _ (ReflectliteValue.method (ReflectliteValue.valueError "reflectlite.Value.Elem" 0) ReflectliteValue.elem) Tryz.func229 (by kernel_rfl) (by kernel_rfl) (by kernel_rfl) (by kernel_rfl)
 have h12:= @run_callFunc_extern Tryz.prog 230 _ ReflectliteValue.set Tryz.func230 (by kernel_rfl) (by kernel_rfl) (by kernel_rfl) (by kernel_rfl)
 have tO:=asg_typeOf25
 have mA:=asg_methodAssignableTo
 have a25:=asg_assignable25
 have v25:=asg_valueOf25
 have f6:=asg_valueOf27
 have f7:=asg_type27
 have mK:=asg_methodKind
 have mE:=asg_methodElem
 have mI:=asg_methodImplements
 have k27:=asg_kind27
 have k25:=asg_kind25
 have e27:=asg_elem27
 have i25:=asg_implements25
 have n8:=asg_isNil27 ⟨w.heap.size,0,none⟩ t ((w.alloc (.cells #[.pointer (some t)] 180)).alloc (.cells #[.pointer (some ⟨8,180,none⟩),.pointer (some ⟨w.heap.size,0,none⟩),.int .u64 150] 220)) (by simp)
 have hlt:4<w.heap.size:=World.block_lt_of_cell? _ _ hg
 have hg2:((w.alloc (.cells #[.pointer (some t)] 180)).alloc (.cells #[.pointer (some ⟨8,180,none⟩),.pointer (some ⟨w.heap.size,0,none⟩),.int .u64 150] 220)).cell? ⟨4,0,none⟩=some (.iface 265 (.agg #[.pointer (some ⟨8,118,none⟩)])):=by
  rw [World.cell?_alloc_lt _ _ ⟨4,0,none⟩ (by simp;omega),World.cell?_alloc_lt _ _ ⟨4,0,none⟩ hlt];exact hg
 have htl:t.block<w.heap.size:=by
  rcases Nat.lt_or_ge t.block w.heap.size with h|h
  ·exact h
  ·simp [World.cell?,Array.getElem?_eq_none h] at ht0
 have el:=asg_elemV27 ⟨w.heap.size,0,none⟩ t (((w.alloc (.cells #[.pointer (some t)] 180)).alloc (.cells #[.pointer (some ⟨8,180,none⟩),.pointer (some ⟨w.heap.size,0,none⟩),.int .u64 150] 220)).alloc (.cells #[.pointer (some ⟨8,180,none⟩),.pointer (some ⟨w.heap.size,0,none⟩),.int .u64 150] 220)) (by rw [World.cell?_alloc_lt _ _ ⟨w.heap.size,0,none⟩ (by simp;omega)];simp)
 have st:=asg_set25 t ⟨w.heap.size+1+1+1,0,none⟩ n old ((((w.alloc (.cells #[.pointer (some t)] 180)).alloc (.cells #[.pointer (some ⟨8,180,none⟩),.pointer (some ⟨w.heap.size,0,none⟩),.int .u64 150] 220)).alloc (.cells #[.pointer (some ⟨8,180,none⟩),.pointer (some ⟨w.heap.size,0,none⟩),.int .u64 150] 220)).alloc (.cells #[.int .i64 n] 177))
  (by rw [World.cell?_alloc_at _ _ _ _ (by simp)];rfl)
  (by rw [World.cell?_alloc_lt _ _ t (by simp;omega),World.cell?_alloc_lt _ _ t (by simp;omega),World.cell?_alloc_lt _ _ t (by simp;omega),World.cell?_alloc_lt _ _ t htl];exact ht0)
  (by rw [World.frozen?_alloc_old _ _ t (by simp;omega),World.frozen?_alloc_old _ _ t (by simp;omega),World.frozen?_alloc_old _ _ t (by simp;omega),World.frozen?_alloc_old _ _ t (Nat.ne_of_lt htl)];exact hf0)
 go_enter Tryz.func127,Tryz.ntmps127
 go_wp2
 refine wp_loop_rounds 1 ?_
 rw [rounds_succ]
 go_wp2
 go_ret
 exact ⟨rfl,rfl⟩
def TypeR (w:World):Prop:=w.cell? ⟨4,0,none⟩=some (.iface 265 (.agg #[.pointer (some ⟨8,118,none⟩)]))
theorem TypeR.below {w w':World} (h:TypeR w) (hb:Below w.heap.size w w'):TypeR w':=cell_step h hb
abbrev refV (n:Int):Value:= .iface 177 (.agg #[.int .i64 n])
theorem gtold_any (n:Int) (w:World) (hg:TypeR w):
  Calls Tryz.prog 65 #[refV n] w fun e w'=>e= .returned (.int .i64 n)∧Below w.heap.size w w':=by
 have hlt:4<w.heap.size:=World.block_lt_of_cell? w _ hg
 have HA:=hid (asg_hit n ⟨w.heap.size,0,none⟩ (.int .i64 0) (w.alloc (.cells #[.int .i64 0] 177)) (by rw [World.cell?_alloc_lt _ _ ⟨4,0,none⟩ hlt];exact hg) (by rw [World.cell?_alloc_at _ _ _ _ rfl];rfl) (by simp))
 go_enter Tryz.func65,Tryz.ntmps65
 go_wp2_with (go_at_call 127;((with_reducible refine (HA.out).mono ?_);rintro e w1 ⟨rfl,rfl⟩))
 go_ret
 exact ⟨by first|rfl|simp,Gr⟩
set_option maxRecDepth 100000
open Go.ChangeShapes Go.WideShapes Go.ChangeAt Go.Fl
attribute [local go_sem] run_store_float run_equalIn_float
structure GroupD where
 st:Int
 tm:Int
 key:List ValD
 n:Int
 sums:List Int
 mins:List Int
 maxs:List Int
structure GrpV where
 st:Int
 tm:Int
 ka:Option Addr
 kn:Nat
 kc:Nat
 n:Int
 sa:Option Addr
 sn:Nat
 sc:Nat
 ma:Option Addr
 mn:Nat
 mc:Nat
 xa:Option Addr
 xn:Nat
 xc:Nat
def GrpV.list (v:GrpV):List Value:=[.int .i64 v.st,.int .i64 v.tm,.slice v.ka v.kn v.kc,.int .i64 v.n,.slice v.sa v.sn v.sc,.slice v.ma v.mn v.mc,.slice v.xa v.xn v.xc]
def GrpV.cells (v:GrpV):Array Value:=v.list.toArray
structure GrpN (S:Nat→Prop) (w:World) (v:GrpV) (d:GroupD):Prop where
 st:v.st=d.st
 tm:v.tm=d.tm
 key:SlS S w (.slice v.ka v.kn v.kc) d.key.length 2 (d.key.flatMap ValD.cells)
 n:v.n=d.n
 sums:SlS S w (.slice v.sa v.sn v.sc) d.sums.length 2 (d.sums.flatMap wcells)
 mins:SlS S w (.slice v.ma v.mn v.mc) d.mins.length 1 (d.mins.map (Value.int .i64))
 maxs:SlS S w (.slice v.xa v.xn v.xc) d.maxs.length 1 (d.maxs.map (Value.int .i64))
theorem GrpN.keep {S T:Nat→Prop} {w w':World} {v:GrpV} {d:GroupD} (h:GrpN S w v d) (hST:∀b,S b→T b) (hk:∀b,S b→b<w.heap.size→w'.heap[b]? =w.heap[b]?):GrpN T w' v d:=
 ⟨h.st,h.tm,h.key.keep hST hk,h.n,h.sums.keep hST hk,h.mins.keep hST hk,h.maxs.keep hST hk⟩
theorem GrpN.below {S:Nat→Prop} {w w':World} {v:GrpV} {d:GroupD} (h:GrpN S w v d) (hb:Below w.heap.size w w'):GrpN S w' v d:=h.keep (fun _ h=>h) (fun b _ hl=>hb.block b hl)
structure GrpOk (d:GroupD):Prop where
 n:I64 d.n
 sums:∀x∈d.sums,I128 x
 mins:∀x∈d.mins,I64 x
 maxs:∀x∈d.maxs,I64 x
def numG (d:GroupD) (at_:Nat) (k:Int):NumD×Int:=
 if k=1 then (⟨d.n,false,0⟩,0)
 else if k=2 then (⟨toV (d.sums.getD at_ 0),false,0⟩,toE (d.sums.getD at_ 0))
 else if k=3 then (⟨d.mins.getD at_ 0,false,0⟩,0)
 else if k=4 then (⟨d.maxs.getD at_ 0,false,0⟩,0)
 else (⟨0,true,ofF (d.sums.getD at_ 0) d.n⟩,0)
def errG (c:Int):Value:=if c=0 then .nilIface else refV c
def NumPost (r:NumD×Int) (w:World) (e:Ending) (w':World):Prop:=e= .returned (.tuple #[.agg #[.bool r.1.fl,.int .i64 r.1.n,.float .f64 r.1.f],errG r.2])∧Below w.heap.size w w'
theorem count_gany (v:GrpV) (d:GroupD) (i:Int) (w:World) (h:GrpN (fun _=>True) w v d):
  Calls Tryz.prog 59 #[.agg (v.list++[Value.int .i64 i]).toArray] w (NumPost (⟨d.n,false,0⟩,0) w):=by
 rw [←h.n]
 clear h
 obtain ⟨st,tm,ka,kn,kc,n,sa,sn,sc,ma,mn,mc,xa,xn,xc⟩:=v
 dsimp only [GrpV.list,List.cons_append,List.nil_append]
 go_enter Tryz.func59,Tryz.ntmps59
 go_wp2
 ((show bodyPost _ _ _ _ _ _);refine bodyPost_ret (by simp only [results,Tryz.results59];go_simp;try rfl) rfl ?_)
 exact ⟨rfl,Gr⟩
theorem least_gany (v:GrpV) (d:GroupD) (i:Nat) (w:World) (h:GrpN (fun _=>True) w v d) (hi:i<d.mins.length) (hl:d.mins.length≤1000000):
  Calls Tryz.prog 61 #[.agg (v.list++[Value.int .i64 (i:Int)]).toArray] w (NumPost (⟨d.mins.getD i 0,false,0⟩,0) w):=by
 obtain ⟨p0,p1,p2,_,p4⟩:=SlAt.parts h.mins.sl
 obtain ⟨b,off,hb,hc⟩:=p4 (by simp;omega)
 have c0:=hc i _ (by rw [List.getElem?_map,List.getElem?_eq_getElem hi];rfl)
 rw [List.getD_eq_getElem?_getD,List.getElem?_eq_getElem hi]
 dsimp only [Option.getD_some]
 generalize d.mins[i]=x at*
 clear h hc p4
 obtain ⟨st,tm,ka,kn,kc,n,sa,sn,sc,ma,mn,mc,xa,xn,xc⟩:=v
 dsimp only [GrpV.list,List.cons_append,List.nil_append] at*
 subst hb
 have hmn:i<mn:=by omega
 have hmI:(i:Int)<(mn:Int):=by omega
 clear hi hl p0
 have hblt:=World.block_lt_of_cell? _ _ c0
 dsimp only at hblt
 go_enter Tryz.func61,Tryz.ntmps61
 go_wp2
 ((show bodyPost _ _ _ _ _ _);refine bodyPost_ret (by simp only [results,Tryz.results61];go_simp;try rfl) rfl ?_)
 exact ⟨rfl,Gr⟩
theorem most_gany (v:GrpV) (d:GroupD) (i:Nat) (w:World) (h:GrpN (fun _=>True) w v d) (hi:i<d.maxs.length) (hl:d.maxs.length≤1000000):
  Calls Tryz.prog 62 #[.agg (v.list++[Value.int .i64 (i:Int)]).toArray] w (NumPost (⟨d.maxs.getD i 0,false,0⟩,0) w):=by
 obtain ⟨p0,p1,p2,_,p4⟩:=SlAt.parts h.maxs.sl
 obtain ⟨b,off,hb,hc⟩:=p4 (by simp;omega)
 have c0:=hc i _ (by rw [List.getElem?_map,List.getElem?_eq_getElem hi];rfl)
 rw [List.getD_eq_getElem?_getD,List.getElem?_eq_getElem hi]
 dsimp only [Option.getD_some]
 generalize d.maxs[i]=x at*
 clear h hc p4
 obtain ⟨st,tm,ka,kn,kc,n,sa,sn,sc,ma,mn,mc,xa,xn,xc⟩:=v
 dsimp only [GrpV.list,List.cons_append,List.nil_append] at*
 subst hb
 have hmn:i<xn:=by omega
 have hmI:(i:Int)<(xn:Int):=by omega
 clear hi hl p0
 have hblt:=World.block_lt_of_cell? _ _ c0
 dsimp only at hblt
 go_enter Tryz.func62,Tryz.ntmps62
 go_wp2
 ((show bodyPost _ _ _ _ _ _);refine bodyPost_ret (by simp only [results,Tryz.results62];go_simp;try rfl) rfl ?_)
 exact ⟨rfl,Gr⟩
theorem sums_at {w:World} {v:GrpV} {d:GroupD} {i:Nat} (h:GrpN (fun _=>True) w v d) (hi:i<d.sums.length):∃b off,v.sa=some ⟨b,off,none⟩∧v.sn=d.sums.length∧w.cell? ⟨b,off+i*2,none⟩=some (.int .i64 (hiW (d.sums.getD i 0)))∧w.cell? ⟨b,off+i*2+1,none⟩=some (.int .u64 (loW (d.sums.getD i 0))):=by
 obtain ⟨p0,p1,p2,_,p4⟩:=SlAt.parts h.sums.sl
 have hl:=h.sums.1
 obtain ⟨b,off,hb,hc⟩:=p4 (by rw [hl];omega)
 refine ⟨b,off,hb,p0,?_,?_⟩
 ·refine hc _ _ ((flat_at 2 wcells wcells_len d.sums i 0 (by decide) hi).trans ?_)
  rw [List.getD_eq_getElem?_getD,List.getElem?_eq_getElem hi];rfl
 ·rw [Nat.add_assoc]
  refine hc _ _ ((flat_at 2 wcells wcells_len d.sums i 1 (by decide) hi).trans ?_)
  rw [List.getD_eq_getElem?_getD,List.getElem?_eq_getElem hi];rfl
theorem sum_gany (v:GrpV) (d:GroupD) (i:Nat) (w:World) (h:GrpN (fun _=>True) w v d) (hi:i<d.sums.length) (hl:d.sums.length≤1000000):
  Calls Tryz.prog 60 #[.agg (v.list++[Value.int .i64 (i:Int)]).toArray] w (NumPost (⟨toV (d.sums.getD i 0),false,0⟩,toE (d.sums.getD i 0)) w):=by
 obtain ⟨b,off,hb,hn,c0,c1⟩:=sums_at h hi
 have HT:=hid (fun W=>to_any (d.sums.getD i 0) W)
 have hE:(toE (d.sums.getD i 0)=0)∨(toE (d.sums.getD i 0)=10∧toV (d.sums.getD i 0)=0):=by
  unfold toE toV
  split
  ·exact .inl rfl
  ·exact .inr ⟨rfl,rfl⟩
 generalize toV (d.sums.getD i 0)=tv at*;generalize toE (d.sums.getD i 0)=te at*
 generalize hiW (d.sums.getD i 0)=x at*;generalize loW (d.sums.getD i 0)=y at*
 clear h
 obtain ⟨st,tm,ka,kn,kc,n,sa,sn,sc,ma,mn,mc,xa,xn,xc⟩:=v
 dsimp only [GrpV.list,List.cons_append,List.nil_append] at*
 subst hb
 have hmn:i<sn:=by omega
 have hmI:(i:Int)<(sn:Int):=by omega
 clear hi hl hn
 have hblt:=World.block_lt_of_cell? _ _ c0
 dsimp only at hblt
 rcases hE with rfl|⟨rfl,rfl⟩
 ·go_enter Tryz.func60,Tryz.ntmps60
  go_wp2_with (go_at_call 124;go_loud ((with_reducible refine (HT.out _).mono ?_);rintro e w1 ⟨rfl,hb1⟩;obtain ⟨hc1,hf1,hk1,hz1⟩:=bcell3 hb1;(try simp only [World.size_alloc,World.size_drew] at hz1)))
  ((show bodyPost _ _ _ _ _ _);refine bodyPost_ret (by simp only [results,Tryz.results60];go_simp;try rfl) rfl ?_)
  exact ⟨rfl,Gr⟩
 ·go_enter Tryz.func60,Tryz.ntmps60
  go_wp2_with (go_at_call 124;go_loud ((with_reducible refine (HT.out _).mono ?_);rintro e w1 ⟨rfl,hb1⟩;obtain ⟨hc1,hf1,hk1,hz1⟩:=bcell3 hb1;(try simp only [World.size_alloc,World.size_drew] at hz1)))
  ((show bodyPost _ _ _ _ _ _);refine bodyPost_ret (by simp only [results,Tryz.results60];go_simp;try rfl) rfl ?_)
  exact ⟨rfl,Gr⟩
theorem avg_gany (v:GrpV) (d:GroupD) (i:Nat) (w:World) (h:GrpN (fun _=>True) w v d) (ok:GrpOk d) (hi:i<d.sums.length) (hl:d.sums.length≤1000000):
  Calls Tryz.prog 63 #[.agg (v.list++[Value.int .i64 (i:Int)]).toArray] w (NumPost (⟨0,true,ofF (d.sums.getD i 0) d.n⟩,0) w):=by
 obtain ⟨b,off,hb,hn,c0,c1⟩:=sums_at h hi
 have HT:=hid (fun W=>ratio_of (d.sums.getD i 0) d.n (ok.sums _ (by rw [List.getD_eq_getElem?_getD,List.getElem?_eq_getElem hi];exact List.getElem_mem hi)) ok.n W)
 have hnn:=h.n
 generalize ofF (d.sums.getD i 0) d.n=tv at*;generalize ofE d.n=te at*
 generalize hiW (d.sums.getD i 0)=x at*;generalize loW (d.sums.getD i 0)=y at*
 clear h ok
 obtain ⟨st,tm,ka,kn,kc,n,sa,sn,sc,ma,mn,mc,xa,xn,xc⟩:=v
 dsimp only [GrpV.list,List.cons_append,List.nil_append] at*
 subst hb
 rw [←hnn] at HT
 have hmn:i<sn:=by omega
 have hmI:(i:Int)<(sn:Int):=by omega
 clear hi hl hn hnn
 have hblt:=World.block_lt_of_cell? _ _ c0
 dsimp only at hblt
 obtain ⟨X,hX⟩:∃X,(w.alloc (.cells #[.int .i64 st,.int .i64 tm,.slice ka kn kc,.int .i64 n,.slice (some ⟨b,off,none⟩) sn sc,.slice ma mn mc,.slice xa xn xc,.int .i64 (i:Int)] 113)).alloc (.cells #[.bool false,.int .i64 0,.float .f64 0] 63)=X:=⟨_,rfl⟩
 have hB:Below w.heap.size w X:=by rw [←hX];exact Gr
 have q3:X.cell? ⟨w.heap.size,3,none⟩=some (.int .i64 n):=by subst hX;go_simp
 have q4:X.cell? ⟨w.heap.size,4,none⟩=some (.slice (some ⟨b,off,none⟩) sn sc):=by subst hX;go_simp
 have q7:X.cell? ⟨w.heap.size,7,none⟩=some (.int .i64 (i:Int)):=by subst hX;go_simp
 have r0:X.heap[w.heap.size+1]? =some (.cells #[.bool false,.int .i64 0,.float .f64 0] 63 (0,0)):=by subst hX;exact Bk
 have p3:=World.plus_cell q3;have p4:=World.plus_cell q4;have p7:=World.plus_cell q7
 have d0:=World.plus_cell (cell_step c0 hB);have d1:=World.plus_cell (cell_step c1 hB)
 go_enter Tryz.func63,Tryz.ntmps63
 go_wp2_with fail
 try rw [hX]
 clear hX c0 c1 q3 q4 q7
 refine wp_region_plus (by kernel_rfl) (by kernel_rfl) ?_
 repeat (first|go_big_quiet_skip|(go_big_quiet_want;go_big_quiet_op;first|go_big_quiet_on|go_big_quiet_call (((go_at_call 125;exact Calls.plus_of (HT.out _))))))
 refine wpQuiet_nil ?_
 rintro _ ⟨xq,rfl⟩
 have kB:=World.plus_below X xq
 have r1:=blk_below r0 kB
 have HB2:=hid (hB.trans (kB.mono hB.size))
 generalize World.plus X xq=Y at*
 have c0:=cell_blk (x:= .bool false) (i:=0) r1 rfl;have c1:=cell_blk (x:= .int .i64 0) (i:=1) r1 rfl;have c2:=cell_blk (x:= .float .f64 0) (i:=2) r1 rfl
 have f0:=free_blk (i:=0) r1;have f1:=free_blk (i:=1) r1;have f2:=free_blk (i:=2) r1
 have hzY:=lt_of_block r1
 clear r0 r1 kB hB p3 p4 p7 d0 d1
 go_wp2
 ((show bodyPost _ _ _ _ _ _);refine bodyPost_ret (by simp only [results,Tryz.results63];go_simp;try rfl) rfl ?_)
 exact ⟨rfl,by have:=HB2.out;exact Gr⟩
open Go.ChangeMaps Go.MapKept
open Go.Maps (Keyed)
attribute [local go_sem] run_store_float run_equalIn_float
def gOkB (nm:Nat) (d:GroupD):Bool:=decide (d.sums.length=nm)&&(decide (d.mins.length=nm)&&(decide (d.maxs.length=nm)&&(decide (1≤d.n)&&decide (d.n≤13000000000))))
def atOf (ds ms:List ByteArray) (g:Int) (a:AggD):Nat:=(placeI (rightS ds ms g) (Lib.idxOfS ms a.metric)).toNat
def numsOf (ds ms:List ByteArray) (g:Int) (aggs:List AggD) (d:GroupD):List (NumD×Int):=aggs.map fun a=>numG d (atOf ds ms g a) a.kind
def firstE:List (NumD×Int)→Int
 |[]=>0
 |x::l=>if x.2=0 then firstE l else x.2
def numsErr (ds ms:List ByteArray) (g:Int) (q:QryD) (L:List (Nat×FilD)) (d:GroupD):Int:=
 if checkQ ds ms g q L=0 then (if gOkB ms.length d=true then firstE (numsOf ds ms g q.aggs d) else 152) else checkQ ds ms g q L
def NumsPost (l:List NumD) (err:Int) (w:World) (e:Ending) (w':World):Prop:=
 ∃v,e= .returned (.tuple #[v,.int .i64 err])∧Below w.heap.size w w'∧((err=0∧w'.ownsRow w.heap.size 63 3 v l.length (l.flatMap NumD.cells))∨(err≠0∧v= .slice none 0 0))
structure GSm (d:GroupD):Prop where
 sums:d.sums.length≤1000000
 mins:d.mins.length≤1000000
 maxs:d.maxs.length≤1000000
theorem nums_early (v:GrpV) (d:GroupD) (q:QryV) (dq:QryD) (L:List (Nat×FilD)) (vd vm:Value) (ds ms:List ByteArray) (g:Int) (w:World) (hd:StrsSl w vd ds) (hm:StrsSl w vm ms)
  (HC:∀W,Below w.heap.size w W→Calls Tryz.prog 27 #[.agg #[vd,vm,.int .i64 g],.agg q.cells] W (IntPost (checkQ ds ms g dq L:Nat) W)) (hne:checkQ ds ms g dq L≠0) (l:List NumD):
  Calls Tryz.prog 28 #[.agg #[vd,vm,.int .i64 g],.agg q.cells,.agg v.cells] w (NumsPost l (numsErr ds ms g dq L d) w):=by
 unfold numsErr
 rw [if_neg hne]
 replace HC:=hid HC
 obtain ⟨r,hr⟩:∃r,checkQ ds ms g dq L=r:=⟨_,rfl⟩
 rw [hr] at HC hne ⊢
 obtain ⟨ad,cd,rfl,_,_,_⟩:=SlAt.shape hd
 obtain ⟨am',cm,rfl,_,_,_⟩:=SlAt.shape hm
 have h1:((r:Int)==0)=false:=by simpa using hne
 have h2:¬(r:Int)=0:=by omega
 clear hd hm hr
 obtain ⟨st,tm,ka,kn,kc,n,sa,sn,sc,ma,mn,mc,xa,xn,xc⟩:=v
 dsimp only [GrpV.cells,GrpV.list] at*
 obtain ⟨aa,LA,ac,ba,LB,bc,mode,sa',LS,sc',every,kind,name,wa,wn,wk,fr,till,la,ln,lc,ha,LH,hc,oa,LO,oc,limit⟩:=q
 dsimp only [QryV.cells] at*
 go_enter Tryz.func28,Tryz.ntmps28
 go_wp2_with (go_at_call 27;go_loud ((with_reducible refine (HC.out _ Gr).mono ?_);rintro e w1 ⟨rfl,hb1⟩))
 go_ret2
 exact ⟨_,rfl,Gr,.inr ⟨h2,rfl⟩⟩
set_option maxHeartbeats 1000000 in
theorem nums_bad (v:GrpV) (d:GroupD) (q:QryV) (dq:QryD) (L:List (Nat×FilD)) (vd vm:Value) (ds ms:List ByteArray) (g:Int) (w:World) (hd:StrsSl w vd ds) (hm:StrsSl w vm ms) (hg:GrpN (fun _=>True) w v d) (hsm:GSm d) (tm':ms.length≤1000)
  (HC:∀W,Below w.heap.size w W→Calls Tryz.prog 27 #[.agg #[vd,vm,.int .i64 g],.agg q.cells] W (IntPost (checkQ ds ms g dq L:Nat) W)) (hne:checkQ ds ms g dq L=0) (hok:gOkB ms.length d=false) (l:List NumD):
  Calls Tryz.prog 28 #[.agg #[vd,vm,.int .i64 g],.agg q.cells,.agg v.cells] w (NumsPost l (numsErr ds ms g dq L d) w):=by
 unfold numsErr
 rw [if_pos hne,if_neg (by rw [hok];simp)]
 rw [hne] at HC
 replace HC:=hid HC
 obtain ⟨ad,cd,rfl,_,_,_⟩:=SlAt.shape hd
 obtain ⟨am',cm,rfl,_,_,_⟩:=SlAt.shape hm
 obtain ⟨p0,_⟩:=SlAt.parts hg.sums.sl
 obtain ⟨p1,_⟩:=SlAt.parts hg.mins.sl
 obtain ⟨p2,_⟩:=SlAt.parts hg.maxs.sl
 have p3:=hg.n
 obtain ⟨h1,h2,h3⟩:=hsm
 unfold gOkB at hok
 rw [←p0,←p1,←p2,←p3] at hok
 rw [←p0] at h1;rw [←p1] at h2;rw [←p2] at h3
 have HOK:=hid hok
 clear hd hm hg hok p0 p1 p2 p3 hne
 generalize ds.length=nd at*;generalize ms.length=nm at*
 obtain ⟨st,tm,ka,kn,kc,n,sa,sn,sc,ma,mn,mc,xa,xn,xc⟩:=v
 dsimp only [GrpV.cells,GrpV.list] at*
 obtain ⟨aa,LA,ac,ba,LB,bc,mode,sa',LS,sc',every,kind,name,wa,wn,wk,fr,till,la,ln,lc,ha,LH,hc,oa,LO,oc,limit⟩:=q
 dsimp only [QryV.cells] at*
 have hcase:¬sn=nm∨(sn=nm∧¬mn=nm)∨(sn=nm∧mn=nm∧¬xn=nm)∨(sn=nm∧mn=nm∧xn=nm∧n<1)∨(sn=nm∧mn=nm∧xn=nm∧¬n<1∧13000000000<n):=by
  have:=HOK.out
  simp at this
  omega
 clear HOK
 rcases hcase with h|⟨rfl,h⟩|⟨rfl,rfl,h⟩|⟨rfl,rfl,rfl,h⟩|⟨rfl,rfl,rfl,h,h'⟩
 ·have ha:((sn:Int)==(nm:Int))=false:=by simp;omega
  have hb:decide ((sn:Int)=(nm:Int))=false:=by simp;omega
  have hc':decide (sn=nm)=false:=by simpa using h
  go_enter Tryz.func28,Tryz.ntmps28
  go_wp2_with (go_at_call 27;go_loud ((with_reducible refine (HC.out _ Gr).mono ?_);rintro e w1 ⟨rfl,hb1⟩;obtain ⟨hc1,hf1,hk1,hz1⟩:=bcell3 hb1;(try simp only [World.size_alloc,World.size_drew] at hz1);have:w.heap.size<w1.heap.size:=(by omega);have:w.heap.size+1<w1.heap.size:=(by omega);have:w.heap.size+1+1<w1.heap.size:=(by omega)))
  go_ret2
  exact ⟨_,rfl,Gr,.inr ⟨by decide,rfl⟩⟩
 ·have ha:((mn:Int)==(sn:Int))=false:=by simp;omega
  have hb:decide ((mn:Int)=(sn:Int))=false:=by simp;omega
  have hc':decide (mn=sn)=false:=by simpa using h
  go_enter Tryz.func28,Tryz.ntmps28
  go_wp2_with (go_at_call 27;go_loud ((with_reducible refine (HC.out _ Gr).mono ?_);rintro e w1 ⟨rfl,hb1⟩;obtain ⟨hc1,hf1,hk1,hz1⟩:=bcell3 hb1;(try simp only [World.size_alloc,World.size_drew] at hz1);have:w.heap.size<w1.heap.size:=(by omega);have:w.heap.size+1<w1.heap.size:=(by omega);have:w.heap.size+1+1<w1.heap.size:=(by omega)))
  go_ret2
  exact ⟨_,rfl,Gr,.inr ⟨by decide,rfl⟩⟩
 ·have ha:((xn:Int)==(mn:Int))=false:=by simp;omega
  have hb:decide ((xn:Int)=(mn:Int))=false:=by simp;omega
  have hc':decide (xn=mn)=false:=by simpa using h
  go_enter Tryz.func28,Tryz.ntmps28
  go_wp2_with (go_at_call 27;go_loud ((with_reducible refine (HC.out _ Gr).mono ?_);rintro e w1 ⟨rfl,hb1⟩;obtain ⟨hc1,hf1,hk1,hz1⟩:=bcell3 hb1;(try simp only [World.size_alloc,World.size_drew] at hz1);have:w.heap.size<w1.heap.size:=(by omega);have:w.heap.size+1<w1.heap.size:=(by omega);have:w.heap.size+1+1<w1.heap.size:=(by omega)))
  go_ret2
  exact ⟨_,rfl,Gr,.inr ⟨by decide,rfl⟩⟩
 ·skip
  go_enter Tryz.func28,Tryz.ntmps28
  go_wp2_with (go_at_call 27;go_loud ((with_reducible refine (HC.out _ Gr).mono ?_);rintro e w1 ⟨rfl,hb1⟩;obtain ⟨hc1,hf1,hk1,hz1⟩:=bcell3 hb1;(try simp only [World.size_alloc,World.size_drew] at hz1);have:w.heap.size<w1.heap.size:=(by omega);have:w.heap.size+1<w1.heap.size:=(by omega);have:w.heap.size+1+1<w1.heap.size:=(by omega)))
  go_ret2
  exact ⟨_,rfl,Gr,.inr ⟨by decide,rfl⟩⟩
 ·skip
  go_enter Tryz.func28,Tryz.ntmps28
  go_wp2_with (go_at_call 27;go_loud ((with_reducible refine (HC.out _ Gr).mono ?_);rintro e w1 ⟨rfl,hb1⟩;obtain ⟨hc1,hf1,hk1,hz1⟩:=bcell3 hb1;(try simp only [World.size_alloc,World.size_drew] at hz1);have:w.heap.size<w1.heap.size:=(by omega);have:w.heap.size+1<w1.heap.size:=(by omega);have:w.heap.size+1+1<w1.heap.size:=(by omega)))
  go_ret2
  exact ⟨_,rfl,Gr,.inr ⟨by decide,rfl⟩⟩
open Go.Maps (Keyed)
attribute [local go_sem] run_store_float run_equalIn_float
abbrev tellsD:DataW Value:=((((((DataW.map []).put (litI 1) (.held (fnV 59))).put (litI 2) (.held (fnV 60))).put (litI 3) (.held (fnV 61))).put (litI 4) (.held (fnV 62))).put (litI 5) (.held (fnV 63)))
theorem tells_at (k:Int) (zd:DataW Value):tellsD.atKey (litI k) zd=if k=1 then .held (fnV 59) else if k=2 then .held (fnV 60) else if k=3 then .held (fnV 61) else if k=4 then .held (fnV 62) else if k=5 then .held (fnV 63) else zd:=by
 have h:tellsD= .map [(litI 1,.held (fnV 59)),(litI 2,.held (fnV 60)),(litI 3,.held (fnV 61)),(litI 4,.held (fnV 62)),(litI 5,.held (fnV 63))]:=by rfl
 rw [h]
 unfold DataW.atKey
 simp only [List.find?,Lit.sameKey,litI,true_and]
 by_cases h1:k=1
 ·subst h1;rfl
 by_cases h2:k=2
 ·subst h2;rfl
 by_cases h3:k=3
 ·subst h3;rfl
 by_cases h4:k=4
 ·subst h4;rfl
 by_cases h5:k=5
 ·subst h5;rfl
 simp [h1,h2,h3,h4,h5,Ne.symm h1,Ne.symm h2,Ne.symm h3,Ne.symm h4,Ne.symm h5]
theorem tells_look {W:World} {b:Nat} {k:Int} {g:Nat} (hk:I64 k) (h:W.ownsMap Tryz.prog 3 heldR b 5 tellsD) (hat:tellsD.atKey (litI k) .nil= .held (fnV g)):
  (Instr.lookup 114 (.map (some b)) (.int .i64 k) false).run Tryz.prog W= .ok (.func (.func g) #[] #[]) W:=by
 have hkey:keyOf Tryz.prog 3 (.int .i64 k)=some (litI k):=Maps.keyOf_int_mk Tryz.underlying3 (by unfold I64 at hk;simp [Lit.wf,IntKind.min,IntKind.max,IntKind.signed,IntKind.bits];omega)
 have hz:(zeroValue 110).run Tryz.prog W= .ok .nilFunc W:=by go_simp
 obtain ⟨v,hrun,hc⟩:=held_at h (Maps.int_keyed Tryz.underlying3) Tryz.underlying114 hz hkey
 rcases hc with hv|⟨_,hv⟩
 ·have:=(hv .nil).symm.trans hat
  cases this
  exact hrun
 ·have:=(hv .nil).symm.trans hat
  cases this
theorem firstE_zero:∀{l:List (NumD×Int)},(∀x∈l,x.2=0)→firstE l=0
 |[],_=>rfl
 |x::l,h=>by unfold firstE;rw [if_pos (h x (by simp))];exact firstE_zero fun y hy=>h y (by simp [hy])
theorem firstE_at:∀{l:List (NumD×Int)} {k:Nat} {x:NumD×Int},l[k]? =some x→(∀j y,j<k→l[j]? =some y→y.2=0)→x.2≠0→firstE l=x.2
 |y::l,0,x,hx,_,hne=>by
  simp at hx
  subst hx
  unfold firstE
  rw [if_neg hne]
 |y::l,k+1,x,hx,h,hne=>by
  unfold firstE
  rw [if_pos (h 0 y (by omega) rfl)]
  exact firstE_at (by simpa using hx) (fun j z hj hz=>h (j+1) z (by omega) (by simpa using hz)) hne
 |[],_,_,hx,_,_=>by simp at hx
theorem place_lt {rs:Bool} {ms:List ByteArray} {x:ByteArray} (h:placeB rs (Lib.idxOfS ms x)=true):(placeI rs (Lib.idxOfS ms x)).toNat<ms.length:=by
 unfold placeB at h
 simp only [Bool.and_eq_true,decide_eq_true_eq] at h
 unfold placeI
 rw [if_pos h]
 rcases idx_is ms x with ⟨e,_⟩|⟨k,hk,e,_⟩
 ·rw [e] at h;omega
 ·rw [e];omega
theorem place_nat (rs:Bool) (r:Int):placeI rs r=((placeI rs r).toNat:Int):=by
 unfold placeI
 split<;>omega
structure NSt (w:World) (sc gc:Array Value) (M:Nat) (W:World):Prop where
 s:W.heap[w.heap.size]? =some (.cells sc 45 (0,0))
 g:W.heap[w.heap.size+1+1]? =some (.cells gc 79 (0,0))
 m:W.ownsMap Tryz.prog 3 heldR M 5 tellsD
 lt:w.heap.size+3≤M
 bel:Below w.heap.size w W
theorem NSt.step {w W W':World} {sc gc:Array Value} {M:Nat} (h:NSt w sc gc M W) (hb:Below W.heap.size W W'):NSt w sc gc M W':=
 ⟨blk_below h.s hb,blk_below h.g hb,by
  have hlt:=h.m.lt
  obtain ⟨es,clock,hbk,F,hs,hD⟩:=h.m
  exact ⟨es,clock,(hb.block _ hlt).trans hbk,F,hs,hD⟩,h.lt,h.bel.step hb⟩
theorem NSt.grow {w W W':World} {sc gc:Array Value} {M:Nat} {e:TypeId} {size:Nat} {v:Value} {n:Nat} {xs:List Value} (h:NSt w sc gc M W) (ho:W.ownsRow (M+1) e size v n xs) (hg:W.grownBy W' v.ownBlock):NSt w sc gc M W':=by
 have hl:=h.lt
 exact ⟨own_blk ho hg (by omega) h.s,own_blk ho hg (by omega) h.g,h.m.kept hg (fun e=>by have:=(ho.lt M e.symm).1;omega),h.lt,own_below ho hg h.bel (by omega)⟩
def fstL (l:List (NumD×Int)):List NumD:=l.map (·.1)
end Go.Proofs.YtejleplhmkmegaaGreatDoor
