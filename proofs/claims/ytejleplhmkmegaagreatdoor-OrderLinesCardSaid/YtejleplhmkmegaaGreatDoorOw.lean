/- Texts joined: OtS, OrX, OtT. -/
import Derived.Test.YtejleplhmkmegaaGreatDoorOt
import Derived.Test.YtejleplhmkmegaaGreatDoorOu
import Derived.Test.YtejleplhmkmegaaGreatDoorOv
import Derived.Test.YtejleplhmkmegaaGreatDoorOr
import Derived.Test.YtejleplhmkmegaaGreatDoorOh
import Derived.Test.YtejleplhmkmegaaGreatDoorOf
set_option linter.unusedVariables false
set_option linter.unusedSimpArgs false
namespace Go.Proofs.YtejleplhmkmegaaGreatDoor
set_option maxRecDepth 100000
open Go.ChangeShapes Go.WideShapes Go.ChangeAt Go.RowKit Go.Fl
def DepN:Nat→FilD→Prop
 |0,_=>False
 |d+1,.mk _ _ _ _ _ l=>∀f∈l,DepN d f
theorem FilS.at_depth {S:Nat→Prop} {w:World}:∀(e D:Nat) {cs:List Value} {f:FilD},DepN e f→FilS S w D cs f→FilS S w e cs f
 |0,_,_,_,h,_=>h.elim
 |_+1,0,_,_,_,h=>by simp [FilS] at h
 |e+1,D+1,cs,.mk k n ws fr till l,hd,h=>by
  unfold FilS at h ⊢
  obtain ⟨vw,vl,rows,h1,h2,h3,h4,h5,h6,h7,h8⟩:=h
  exact ⟨vw,vl,rows,h1,h2,h3,h4,h5,h6,h7,fun i hi r hr=>FilS.at_depth e D (hd _ (List.getElem_mem hi)) (h8 i hi r hr)⟩
theorem dep_cut:∀(d:Nat) (f:FilD),DepN (d+1) (cutF d f)
 |0,.mk k n ws fr till l=>fun f hf=>by cases hf
 |d+1,.mk k n ws fr till l=>fun f hf=>by
  obtain ⟨x,hx,rfl⟩:=List.mem_map.1 hf
  exact dep_cut d x
theorem dep_few (f:FilD):DepN 8 (fewF f):=by
 have h:=dep_cut 7 f
 unfold fewF
 split
 ·cases hc:cutF 7 f with
  |mk k n ws fr till l=>exact fun f hf=>by cases hf
 ·exact h
theorem flat_kinds:∀(d deep:Nat) {f:FilD},(∀e,KindsN e f)→∀p∈flatN d deep f,KindsN 1 p.2
 |0,_,_,_,p,hp=>by simp [flatN] at hp
 |d+1,deep,.mk k n ws fr till l,h,p,hp=>by
  unfold flatN at hp
  rcases List.mem_cons.1 hp with rfl|hp
  ·exact h 1
  ·obtain ⟨q,hq,hp⟩:=List.mem_flatten.1 hp
   obtain ⟨x,hx,rfl⟩:=List.mem_map.1 hq
   exact flat_kinds d (deep+1) (fun e=>(h (e+1)).2 x hx) p hp
theorem flat_words:∀(d deep e:Nat) (f:FilD),∀p∈flatN d deep (cutF e f),p.2.words.length≤10
 |0,_,_,_,p,hp=>by simp [flatN] at hp
 |d+1,deep,0,.mk k n ws fr till l,p,hp=>by
  unfold cutF flatN at hp
  simp only [List.map_nil,List.flatten_nil,List.mem_singleton] at hp
  subst hp
  show ((ws.take 10).map (cutS 110)).length≤10
  rw [List.length_map,List.length_take]
  omega
 |d+1,deep,e+1,.mk k n ws fr till l,p,hp=>by
  unfold cutF flatN at hp
  rcases List.mem_cons.1 hp with rfl|hp
  ·show ((ws.take 10).map (cutS 110)).length≤10
   rw [List.length_map,List.length_take]
   omega
  ·obtain ⟨q,hq,hp⟩:=List.mem_flatten.1 hp
   obtain ⟨x,hx,rfl⟩:=List.mem_map.1 hq
   obtain ⟨y,hy,rfl⟩:=List.mem_map.1 hx
   exact flat_words d (deep+1) e y p hp
theorem few_sm {f:FilD} (h:∀e,KindsN e f):FilSm 8 (fewF f):=by
 refine ⟨by decide,fun p hp=>⟨flat_kinds 8 1 (fun e=>kinds_few (h e)) p hp,?_⟩⟩
 have hw:=flat_words 8 1 7 f
 unfold fewF at hp
 split at hp
 ·have h10:p.2.words.length≤10:=by
   cases hc:cutF 7 f with
   |mk k n ws fr till l=>
    rw [hc] at hp hw
    unfold noL flatN at hp
    simp only [List.map_nil,List.flatten_nil,List.mem_singleton] at hp
    subst hp
    have:=hw (1,.mk k n ws fr till l) (by unfold flatN;exact List.mem_cons_self ..)
    exact this
  omega
 ·have:=hw p hp
  omega
theorem cutN_len (l:List ByteArray):(cutN l).length≤10:=by unfold cutN;rw [List.length_map,List.length_take];omega
theorem fewQ_ok {d:QryD} (ok:QryOk d) (hk:∀e,KindsN e d.wher):QOk 8 (fewQ d):=by
 refine ⟨⟨?_,?_,⟨?_,fun l hl=> ?_⟩,?_,?_⟩,fun a ha=> ?_,fun c hc=> ?_,ok.limit,few_sm hk⟩
 ·show ((d.aggs.take 10).map cutA).length≤1000
  rw [List.length_map,List.length_take];omega
 ·have:=cutN_len d.by_
  show (cutN d.by_).length≤1000
  omega
 ·show ((d.sets.take 10).map cutN).length≤1000
  rw [List.length_map,List.length_take];omega
 ·obtain ⟨x,_,rfl⟩:=List.mem_map.1 (show l∈(d.sets.take 10).map cutN from hl)
  have:=cutN_len x
  omega
 ·show (d.having.take 10).length≤1000
  rw [List.length_take];omega
 ·show (d.order.take 10).length≤1000
  rw [List.length_take];omega
 ·obtain ⟨x,hx,rfl⟩:=List.mem_map.1 (show a∈(d.aggs.take 10).map cutA from ha)
  exact (ok.aggs x (List.mem_of_mem_take hx)).1
 ·exact (ok.having c (List.mem_of_mem_take (show c∈d.having.take 10 from hc))).2
theorem txt_ok {ds:List ByteArray} (h:∀s∈ds,s.size≤9223372036854775807):Texts (txtCut 30 10 ds):=by
 constructor
 ·unfold txtCut;rw [List.length_map,List.length_take];omega
 ·intro s hs
  obtain ⟨x,hx,rfl⟩:=List.mem_map.1 (show s∈(ds.take 10).map (cutS 30) from hs)
  have:=cutS_size 30 x
  omega
theorem valsCut_len (l:List ValD):(valsCut l).length≤10:=by
 unfold valsCut
 first|(rw [List.length_map,List.length_take];omega)|(simp;omega)|simp
theorem fewGs_ok {gs:List GroupD} (h:∀d∈gs,GrpOk d):GrpsOk (fewGs gs):=by
 have e:∀d∈fewGs gs,∃c∈gs,d=fewG c:=fun d hd=>by
  obtain ⟨c,hc,rfl⟩:=List.mem_map.1 (show d∈(gs.take 100).map fewG from hd)
  exact ⟨c,List.mem_of_mem_take hc,rfl⟩
 refine ⟨?_,fun d hd=> ?_,fun d hd=> ?_,fun d hd=> ?_⟩
 ·unfold fewGs;rw [List.length_map,List.length_take];omega
 ·obtain ⟨c,_,rfl⟩:=e d hd
  have:=valsCut_len c.key
  show (valsCut c.key).length≤1000000
  omega
 ·obtain ⟨c,hc,rfl⟩:=e d hd
  have:=h c hc
  exact ⟨this.n,fun x hx=>this.sums x (List.mem_of_mem_take hx),fun x hx=>this.mins x (List.mem_of_mem_take hx),fun x hx=>this.maxs x (List.mem_of_mem_take hx)⟩
 ·obtain ⟨c,hc,rfl⟩:=e d hd
  refine ⟨?_,?_,?_⟩
  ·show (c.sums.take 10).length≤1000000
   rw [List.length_take];omega
  ·show (c.mins.take 10).length≤1000000
   rw [List.length_take];omega
  ·show (c.maxs.take 10).length≤1000000
   rw [List.length_take];omega
theorem qcells_one (q:QryV):q.cells.all (·.oneCell')=true:=by simp [QryV.cells,Value.oneCell']
theorem qinfo (q:QryV):(Tryz.prog.info? 33).map (·.size)=some q.cells.size:=by show _=some 14;kernel_rfl
structure LSt (w X:World) (sc:Array Value) (q:QryV):Prop where
 bs:X.heap[w.heap.size]? =some (.cells sc 45 (0,0))
 bq:X.heap[w.heap.size+1]? =some (.cells q.cells 33 (0,0))
 bel:Below w.heap.size w X
theorem LSt.step {w X Y:World} {sc:Array Value} {q:QryV} (h:LSt w X sc q) (hb:Below X.heap.size X Y):LSt w Y sc q:=⟨blk_below h.bs hb,blk_below h.bq hb,h.bel.step hb⟩
theorem LSt.size {w X:World} {sc:Array Value} {q:QryV} (h:LSt w X sc q):w.heap.size+2≤X.heap.size:=by have:=lt_of_block h.bq;omega
theorem LSt.putS {w X Y:World} {sc sc':Array Value} {q:QryV} (h:LSt w X sc q) (hg:X.grownBy Y (some w.heap.size)) (hs:Y.heap[w.heap.size]? =some (.cells sc' 45 (0,0))):LSt w Y sc' q:=
 ⟨hs,(hg.block _ (lt_of_block h.bq) (fun e=>by have:=Option.some.inj e;omega)).trans h.bq,grown_below hg (Nat.le_refl _) h.bel⟩
theorem LSt.putQ {w X Y:World} {sc:Array Value} {q q':QryV} (h:LSt w X sc q) (hg:X.grownBy Y (some (w.heap.size+1))) (hs:Y.heap[w.heap.size+1]? =some (.cells q'.cells 33 (0,0))):LSt w Y sc q':=
 ⟨(hg.block _ (lt_of_block h.bs) (fun e=>by have:=Option.some.inj e;omega)).trans h.bs,hs,grown_below hg (by omega) h.bel⟩
theorem far_kept {w X Y:World} {n k:Nat} (h:X.grownBy Y (some k)) (hk:w.heap.size≤k∧k<w.heap.size+n):∀b,Far n w b→b<X.heap.size→Y.heap[b]? =X.heap[b]? :=fun b hb hl=>h.block b hl (fun e=>by
 have:=Option.some.inj e
 unfold Far at hb
 omega)
structure LawIn (K:Nat→Prop) (X:World) (vd vm:Value) (ds ms:List ByteArray) (q:QryV) (dq:QryD):Prop where
 hd:SlS K X vd ds.length 1 (strsV ds)
 hm:SlS K X vm ms.length 1 (strsV ms)
 nq:QryN K X q dq
theorem LawIn.keep {K L:Nat→Prop} {X Y:World} {vd vm:Value} {ds ms:List ByteArray} {q:QryV} {dq:QryD} (h:LawIn K X vd vm ds ms q dq) (hKL:∀b,K b→L b) (hk:∀b,K b→b<X.heap.size→Y.heap[b]? =X.heap[b]?):LawIn L Y vd vm ds ms q dq:=⟨h.hd.keep hKL hk,h.hm.keep hKL hk,h.nq.keep hKL hk⟩
theorem LawIn.below {K:Nat→Prop} {X Y:World} {vd vm:Value} {ds ms:List ByteArray} {q:QryV} {dq:QryD} (h:LawIn K X vd vm ds ms q dq) (hb:Below X.heap.size X Y):LawIn K Y vd vm ds ms q dq:=h.keep (fun _ h=>h) (fun b _ hl=>hb.block b hl)
theorem lines_of {K S:Nat→Prop} {X:World} {vd vm:Value} {ds ms:List ByteArray} {q:QryV} {dq:QryD} {am an:Addr} {ao:Option Addr} {cap:Nat} {vs:List GrpV} {gs:List GroupD} {M:Nat} (g:Int) (h:LawIn K X vd vm ds ms q dq) (td:Texts ds) (tm:Texts ms) (hM:gs.length=M) (hgs:GrpsN S X (.slice ao M cap) vs gs) (gok:GrpsOk gs) (qok:QOk 8 dq) (hdep:DepN 8 dq.wher) (hS:SentF am an X) (hT:TypeR X):
  Calls Tryz.prog 15 #[.agg #[vd,vm,.int .i64 g],.agg q.cells,.slice ao M cap] X (LinesPost ds ms g dq (flatN 8 1 dq.wher) gs X):=by
 subst hM
 obtain ⟨D,hD⟩:=h.nq.wher
 exact lines_any K 8 q dq vd vm ao cap vs gs ds ms g am an X h.hd.sl h.hm.sl td tm (hgs.keep (fun _ _=>trivial) (fun _ _ _=>rfl)) gok h.nq.is qok (hD.at_depth 8 D hdep) hS hT
theorem res_zero {ds ms:List ByteArray} {g:Int} {q:QryD} {L:List (Nat×FilD)} {gs:List GroupD} (h:linesRes ds ms g q L gs=0):checkQ ds ms g q L=0∧linesErr ds ms g q L gs=0:=by
 unfold linesRes at h
 split at h
 ·exact ⟨by assumption,h⟩
 ·rename_i h0;omega
theorem ln_at {S:Nat→Prop} {w:World} {v:Value} {K:Nat} {T:List El} (h:SlS S w v K 4 (elCells (T.take K))) (hK:K≤T.length) {i:Nat} (hi:i<K):∃b off cap x,v= .slice (some ⟨b,off,none⟩) K cap∧T[i]? =some x∧
  w.cell? ⟨b,off+i*4,none⟩=some (.int .i64 x.v.st)∧w.cell? ⟨b,off+i*4+1,none⟩=some (.int .i64 x.v.tm)∧w.cell? ⟨b,off+i*4+2,none⟩=some (.slice x.v.ka x.v.kn x.v.kc)∧w.cell? ⟨b,off+i*4+3,none⟩=some (.slice x.v.na x.v.nn x.v.nc):=by
 obtain ⟨h0,ao,cap,rfl,h1,h2,h3,h4⟩:=h
 obtain ⟨b,off,rfl,_,hc⟩:=h4 (by rw [h0];omega)
 have hl:i<(T.take K).length:=by rw [List.length_take];omega
 have hg:T[i]? =some (T.take K)[i]:=by
  have:=List.getElem?_eq_getElem hl
  rw [List.getElem?_take,if_pos hi] at this
  exact this
 have e:∀r,r<4→∀u,((T.take K)[i].v.cells.toList)[r]? =some u→w.cell? ⟨b,off+i*4+r,none⟩=some u:=fun r hr u hu=>by
  rw [Nat.add_assoc]
  exact hc _ _ ((flat_at 4 (fun e:El=>e.v.cells.toList) (fun _=>rfl) (T.take K) i r hr hl).trans hu)
 exact ⟨b,off,cap,_,rfl,hg,e 0 (by decide) _ rfl,e 1 (by decide) _ rfl,e 2 (by decide) _ rfl,e 3 (by decide) _ rfl⟩
theorem LSt.set {w X:World} {sc:Array Value} {q q':QryV} (h:LSt w X sc q) (o:Nat) (v:Value) (hq:q'.cells=q.cells.setIfInBounds o v):LSt w (X.setCell ⟨w.heap.size+1,o,none⟩ v) sc q':=
 ⟨(heap_set_other (by omega)).trans h.bs,by rw [hq];exact blk_set h.bq,h.bel.setCell (by dsimp only;omega) _⟩
end Go.Proofs.YtejleplhmkmegaaGreatDoor
