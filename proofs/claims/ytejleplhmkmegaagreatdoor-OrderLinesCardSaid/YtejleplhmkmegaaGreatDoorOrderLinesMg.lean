/- OrderLines holds: the program and the document's answer tell the same lines of groups, or the same error, for any schema, query and groups. The listed variables hold what the program's text lays in them (the card ties them). -/
import Derived.Test.YtejleplhmkmegaaGreatDoorO4
import Derived.Test.YtejleplhmkmegaaGreatDoorCards
import Derived.Test.YtejleplhmkmegaaGreatDoorTie
import Derived.SevenTiedAt
namespace Go.Proofs.YtejleplhmkmegaaGreatDoor
set_option linter.unusedVariables false
set_option linter.unusedSimpArgs false
open Go.ChangeShapes Go.WideShapes Go.ChangeAt Go.RowKit Go.Joins Go.Fl
theorem OrderLines_walk (vd vm:Value) (ds ms:List ByteArray) (g:Int) (q:QryV) (dq:QryD) (la:Option Addr) (lc:Nat) (vs:List GrpV) (gs:List GroupD) (w:World) (hd:StrsSl w vd ds) (hm:StrsSl w vm ms) (td:∀s∈ds,s.size≤9223372036854775807) (tm:∀s∈ms,s.size≤9223372036854775807) (hg:I64 g) (hq:QryIs w q dq) (ok:QryOk dq) (hk:∀e,KindsN e dq.wher)
  (hgs:GrpsN (fun _=>True) w (.slice la gs.length lc) vs gs) (hgl:gs.length≤9223372036854775807) (hgo:∀d∈gs,GrpOk d∧∀v∈d.key,v.s.size≤9223372036854775807) (am an:Addr) (hTab:Tabs w) (hS:SentF am an w) (hT:TypeR w):
  Calls Tryz.prog 4 #[.agg #[vd,vm,.int .i64 g],.agg q.cells,.slice la gs.length lc] w fun e w'=>e= .returned (.bool true)∧Below w.heap.size w w':=
 OrderLines_core q dq vd vm ds ms g la lc vs gs w am an hd hm td tm hq ok hk hgs hgl hgo hTab hS hT
set_option maxRecDepth 100000 in
theorem OrderLines_lifted (os:Os) (started:os.Started) (H:Type) (enc:TypeId×Value→H):
  ReturnsInHanded {} Tryz.checked os 4 .any (fun w args=>(Rows.orderLinesSpec.pre enc Tryz.prog Tryz.f4 Rows.orderLinesRow.domain false w args∧laidMetH Tryz.prog laidL w)∧sizedMet enc Tryz.prog Tryz.f4 (OpenSpec.ofChange Rows.orderLinesSpec) false w args) (Rows.orderLinesSpec.post enc Tryz.prog Tryz.f4 false true false false):=by
 refine law_lift started (by kernel_rfl) Tryz.func4
  (ChangeSpec.witness_shaped (enc:=enc) (C:=Tryz.checked) (os:=os) (X:=fun w _=>laidMetH Tryz.prog laidL w) false (World.doorLaid Tryz.prog 400 os) #[.agg #[.slice none 0 0,.slice none 0 0,.int .i64 0],.agg #[.slice none 0 0,.slice none 0 0,.int .i64 0,.slice none 0 0,.int .i64 0,.int .i64 0,.string { data:= #[]},.slice none 0 0,.int .i64 0,.int .i64 0,.slice none 0 0,.slice none 0 0,.slice none 0 0,.int .i64 0],.slice none 0 0] 8 rfl (World.shaped_of_RefB (by kernel_rfl) (by kernel_rfl)) (by kernel_rfl) (by kernel_rfl) (by kernel_rfl) (door_met os _)) rfl rfl (by kernel_rfl) ?_ ?_
 ·intro ds hl
  match ds,hl with
  |[_,_,_],_=>exact ⟨rfl,rfl,rfl⟩
 ·intro W base args ds p am an hTab hS hT hval hA hsz
  rw [Tryz.params4] at hA hval hsz
  obtain ⟨v0,vs0,d0,ds0,p0,q0,hargs,rfl,rfl,h0,r0⟩:=trodAll_cons hA
  obtain ⟨v1,vs1,d1,ds1,p1,q1,rfl,rfl,rfl,h1,r1⟩:=trodAll_cons r0
  obtain ⟨v2,vs2,d2,ds2,p2,q2,rfl,rfl,rfl,h2,r2⟩:=trodAll_cons r1
  obtain ⟨rfl,rfl,rfl⟩:=trodAll_nil r2
  obtain rfl:args= #[v0,v1,v2]:=by cases args;simp_all
  obtain ⟨va0,vb0,x0,y0,z0,rfl,b0,e0,f0,g0,k0⟩:=open_sch (hval 0 45 v0 rfl rfl) h0
  obtain ⟨a1,c1,rfl,b1,e1,f1⟩:=open_query2 (hval 1 33 v1 rfl rfl) h1
  obtain ⟨la2,lc2,vs2',gs2,rfl,b2,e2,f2⟩:=open_grpsT Tryz.underlying46 (hval 2 46 v2 rfl rfl) h2
  exact OrderLines_walk _ _ _ _ _ a1 c1 la2 lc2 vs2' gs2 W b0 e0 f0 g0 k0 b1 e1 f1 b2 e2 f2 am an hTab hS hT
theorem OrderLines_over:Rows.orderLinesRow.holds Tryz.pinned (OpenSpec.ofChange Rows.orderLinesSpec):=
 OpenClaim.holds_of_wide 4 Tryz.f4 rfl rfl rfl rfl rfl rfl rfl ⟨rfl,rfl,rfl,rfl,rfl⟩ rfl rfl rfl rfl rfl (by kernel_rfl) Tryz.func4 (by kernel_rfl)
  (of_decide_eq_true (by kernel_rfl)) (by unfold Func.isWrapper;first|(rw [if_pos (by decide+kernel)];kernel_rfl)|(rw [if_neg (by decide+kernel)];exact ⟨rfl,rfl⟩))
  (fun os started H enc _=>OrderLines_lifted os started H enc)
theorem OrderLines_proved:Rows.OrderLinesCardSaid:=
 Claim7.holds_tied_plain_at .later [] [.data, .data, .data, .handle, .sentinel, .sentinel] true (true, "5d782815e7fdddf95676eb5b4e2dd427eaca8bbaa8f93fbe6197e7f81362b465") true
  OrderLines_over (fun _ h=>by cases h) (by kernel_rfl) (fun _ h=>by cases h) orderLines_row_tie rfl ⟨rfl,rfl⟩ (by kernel_rfl) rfl
  (fun f fn hf hfn=>by
   obtain rfl : f = 4 := Option.some.inj ((show Tryz.prog.funcNamed "tesserae/tesseraelaw18.OrderLines" = some 4 by kernel_rfl).symm.trans hf) |>.symm
   obtain rfl:fn=Tryz.f4:=(Option.some.inj (Tryz.func4.symm.trans hfn)).symm
   exact ⟨by kernel_rfl,fun j t ht=>by
    rw [Tryz.params4] at ht
    have hm:t∈[45,33,46]:=by simpa using Array.mem_of_getElem? ht
    have hall:([45,33,46].all fun u=> !Tryz.prog.wantsStandIn u)=true:=by kernel_rfl
    exact (show Tryz.prog.wantsStandIn t=false by simpa using List.all_eq_true.1 hall t hm)⟩)
  (by kernel_rfl)
end Go.Proofs.YtejleplhmkmegaaGreatDoor
