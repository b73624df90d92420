/- Texts joined: OsB. -/
import Derived.Test.YtejleplhmkmegaaGreatDoorOh
set_option linter.unusedVariables false
set_option linter.unusedSimpArgs false
namespace Go.Proofs.YtejleplhmkmegaaGreatDoor
set_option maxRecDepth 100000
open Go.ChangeShapes Go.WideShapes Go.ChangeAt Go.RowKit Go.Fl
theorem firstO {α:Type} (p:α→Bool):∀l:List α,(l.any p=false∧∀i (hi:i<l.length),p l[i]=false)∨(l.any p=true∧∃j,∃hj:j<l.length,p l[j]=true∧∀i (hi:i<j),p (l[i]'(by omega))=false)
 |[]=> .inl ⟨rfl,fun i hi=>absurd hi (Nat.not_lt_zero i)⟩
 |x::l=>by
  by_cases hx:p x=true
  ·exact .inr ⟨by simp [hx],0,by simp,by simpa using hx,fun i hi=>absurd hi (Nat.not_lt_zero i)⟩
  ·rcases firstO p l with ⟨h1,h2⟩|⟨h1,j,h2,h3,h4⟩
   ·refine .inl ⟨by simp [hx,h1],fun i hi=> ?_⟩
    cases i with
    |zero=>simpa using hx
    |succ i=>simpa using h2 i (by simpa using hi)
   ·refine .inr ⟨by simp [h1],j+1,by simpa using h2,by simpa using h3,fun i hi=> ?_⟩
    cases i with
    |zero=>simpa using hx
    |succ i=>simpa using h4 i (by omega)
theorem SetsSl.below {w w':World} {v:Value} {l:List (List ByteArray)} (h:SetsSl w v l) (hb:Below w.heap.size w w'):SetsSl w' v l:=by
 obtain ⟨vs,h1,h2,h3⟩:=h
 exact ⟨vs,h1,SlAt.below h2 hb,fun i hi x hx=>(h3 i hi x hx).below hb⟩
theorem agg_parts {w:World} {v:Value} {l:List AggD} (h:AggsSl w v l):∃ao cap,v= .slice ao l.length cap∧l.length≤cap∧cap≤maxLen∧(ao=none→cap=0)∧
  (0<l.length→∃b off,ao=some ⟨b,off,none⟩∧∀k (hk:k<l.length),w.cell? ⟨b,off+k*2,none⟩=some (.int .i64 l[k].kind)∧w.cell? ⟨b,off+k*2+1,none⟩=some (.string l[k].metric)):=by
 obtain ⟨h0,ao,cap,rfl,h1,h2,h3,h⟩:=h
 refine ⟨ao,cap,rfl,h1,h2,h3,fun h00=> ?_⟩
 obtain ⟨b,off,rfl,hc⟩:=h (by rw [h0];omega)
 exact ⟨b,off,rfl,fun k hk=>⟨hc _ _ ((flat_at 2 AggD.cells AggD.cells_len l k 0 (by decide) hk).trans rfl),hc _ _ ((flat_at 2 AggD.cells AggD.cells_len l k 1 (by decide) hk).trans rfl)⟩⟩
theorem str_parts {w:World} {v:Value} {l:List ByteArray} (h:StrsSl w v l):∃ao cap,v= .slice ao l.length cap∧l.length≤cap∧cap≤maxLen∧(ao=none→cap=0)∧
  (0<l.length→∃b off,ao=some ⟨b,off,none⟩∧∀k (hk:k<l.length),w.cell? ⟨b,off+k,none⟩=some (.string l[k])):=by
 obtain ⟨h0,ao,cap,rfl,h1,h2,h3,h⟩:=h
 refine ⟨ao,cap,rfl,h1,h2,h3,fun h00=> ?_⟩
 obtain ⟨b,off,rfl,hc⟩:=h (by rw [h0];omega)
 exact ⟨b,off,rfl,fun k hk=>hc k _ (by simp [strsV,List.getElem?_map,List.getElem?_eq_getElem hk])⟩
theorem cond_parts {w:World} {v:Value} {l:List CondD} (h:CondsSl w v l):∃ao cap,v= .slice ao l.length cap∧l.length≤cap∧cap≤maxLen∧(ao=none→cap=0)∧
  (0<l.length→∃b off,ao=some ⟨b,off,none⟩∧∀k (hk:k<l.length),w.cell? ⟨b,off+k*3,none⟩=some (.int .i64 l[k].pos)∧w.cell? ⟨b,off+k*3+1,none⟩=some (.int .i64 l[k].op)∧w.cell? ⟨b,off+k*3+2,none⟩=some (.int .i64 l[k].n)):=by
 obtain ⟨h0,ao,cap,rfl,h1,h2,h3,h⟩:=h
 refine ⟨ao,cap,rfl,h1,h2,h3,fun h00=> ?_⟩
 obtain ⟨b,off,rfl,hc⟩:=h (by rw [h0];omega)
 exact ⟨b,off,rfl,fun k hk=>⟨hc _ _ ((flat_at 3 CondD.cells CondD.cells_len l k 0 (by decide) hk).trans rfl),hc _ _ ((flat_at 3 CondD.cells CondD.cells_len l k 1 (by decide) hk).trans rfl),hc _ _ ((flat_at 3 CondD.cells CondD.cells_len l k 2 (by decide) hk).trans rfl)⟩⟩
theorem key_parts {w:World} {v:Value} {l:List KeyD} (h:KeysSl w v l):∃ao cap,v= .slice ao l.length cap∧l.length≤cap∧cap≤maxLen∧(ao=none→cap=0)∧
  (0<l.length→∃b off,ao=some ⟨b,off,none⟩∧∀k (hk:k<l.length),w.cell? ⟨b,off+k*3,none⟩=some (.bool l[k].agg)∧w.cell? ⟨b,off+k*3+1,none⟩=some (.int .i64 l[k].pos)∧w.cell? ⟨b,off+k*3+2,none⟩=some (.bool l[k].desc)):=by
 obtain ⟨h0,ao,cap,rfl,h1,h2,h3,h⟩:=h
 refine ⟨ao,cap,rfl,h1,h2,h3,fun h00=> ?_⟩
 obtain ⟨b,off,rfl,hc⟩:=h (by rw [h0];omega)
 exact ⟨b,off,rfl,fun k hk=>⟨hc _ _ ((flat_at 3 KeyD.cells KeyD.cells_len l k 0 (by decide) hk).trans rfl),hc _ _ ((flat_at 3 KeyD.cells KeyD.cells_len l k 1 (by decide) hk).trans rfl),hc _ _ ((flat_at 3 KeyD.cells KeyD.cells_len l k 2 (by decide) hk).trans rfl)⟩⟩
theorem set_parts {w:World} {v:Value} {l:List (List ByteArray)} (h:SetsSl w v l):∃ao cap,v= .slice ao l.length cap∧l.length≤cap∧cap≤maxLen∧(ao=none→cap=0)∧
  (0<l.length→∃b off,ao=some ⟨b,off,none⟩∧∀k (hk:k<l.length),∃vx,w.cell? ⟨b,off+k,none⟩=some vx∧StrsSl w vx l[k]):=by
 obtain ⟨vs,hl,⟨h0,ao,cap,rfl,h1,h2,h3,h⟩,hr⟩:=h
 refine ⟨ao,cap,rfl,h1,h2,h3,fun h00=> ?_⟩
 obtain ⟨b,off,rfl,hc⟩:=h (by omega)
 refine ⟨b,off,rfl,fun k hk=>⟨vs[k]'(by omega),hc k _ (List.getElem?_eq_getElem (by omega)),hr k hk _ (List.getElem?_eq_getElem (by omega))⟩⟩
theorem agg_not (b1 b2:Nat) (p:AggD→Bool) (x:AggD) (w:World) (hb:w.cell? ⟨b2,0,none⟩=some (.func (.func 109) #[] #[.pointer (some ⟨b1,0,none⟩)])) (HF:∀W,Below w.heap.size w W→Calls Tryz.prog 109 #[.agg #[.int .i64 x.kind,.string x.metric],.pointer (some ⟨b1,0,none⟩)] W fun e w'=>e= .returned (.bool (p x))∧Below W.heap.size W w'):
  Calls Tryz.prog 172 #[.agg #[.int .i64 x.kind,.string x.metric],.pointer (some ⟨b2,0,none⟩)] w fun e w'=>e= .returned (.bool (!p x))∧Below w.heap.size w w':=by
 have HG:=hid HF
 have hlt:=World.block_lt_of_cell? _ _ hb
 clear HF
 generalize p x=r at*
 generalize x.kind=f0 at*;generalize x.metric=f1 at*
 go_enter Tryz.func172,Tryz.ntmps172
 cases r
 ·go_wp2_with (go_at_call 109;go_loud ((with_reducible refine (HG.out _ Gr).mono ?_);rintro e w2 ⟨rfl,hb2⟩))
  go_ret
  exact ⟨rfl,Gr⟩
 ·go_wp2_with (go_at_call 109;go_loud ((with_reducible refine (HG.out _ Gr).mono ?_);rintro e w2 ⟨rfl,hb2⟩))
  go_ret
  exact ⟨rfl,Gr⟩
set_option maxHeartbeats 1000000 in
theorem agg_idx (b2:Nat) (v:Value) (l:List AggD) (p:AggD→Bool) (w:World) (hv:AggsSl w v l) (hl:l.length≤1000000) (HF:∀(x:AggD) (W:World),x∈l→Below w.heap.size w W→Calls Tryz.prog 172 #[.agg #[.int .i64 x.kind,.string x.metric],.pointer (some ⟨b2,0,none⟩)] W fun e w'=>e= .returned (.bool (p x))∧Below W.heap.size W w') (j:Nat) (hj:j≤l.length) (hpre:∀i (hi:i<j),p (l[i]'(by omega))=false) (hat:∀hj:j<l.length,p l[j]=true):
  Calls Tryz.prog 214 #[v,.func (.func 172) #[] #[.pointer (some ⟨b2,0,none⟩)]] w fun e w'=>e= .returned (.int .i64 (if j<l.length then (j:Int) else -1))∧Below w.heap.size w w':=by
 obtain ⟨ao,cap,rfl,h1,h2,h3,hA⟩:=agg_parts hv
 have HA:=hid hA;have HP:=hid hpre;have HT:=hid hat;have HFF:=hid HF
 obtain ⟨L,hL⟩:∃L,l.length=L:=⟨_,rfl⟩
 have HL:=hid hL
 rw [hL] at hj hl h1 ⊢
 clear hpre hat hL hv HF hA
 unfold maxLen at h2
 go_enter Tryz.func214,Tryz.ntmps214
 go_wp2
 go_loopw [8] (fun i wr=>∃k:Nat,k≤j∧i= .int .i64 k∧Below w.heap.size w wr) (fun i _=>L-(intOf i).toNat)
 case atStart=>exact ⟨0,Nat.zero_le _,rfl,Below.refl _ _⟩
 case round=>
  obtain ⟨k,hk,rfl,hbel⟩:=hrel
  by_cases hkL:k<L
  ·have hlen:k<l.length:=by rw [HL.out];exact hkL
   have h00:0<l.length:=by omega
   obtain ⟨b,off,rfl,hA⟩:=HA.out h00
   obtain ⟨c0,c1⟩:=hA k hlen
   replace c0:=cell_step c0 hbel;replace c1:=cell_step c1 hbel
   have HI:=hid (HFF.out l[k] wr (List.getElem_mem hlen) hbel)
   have hok:p l[k]= !decide (k<j):=by
    by_cases h:k<j
    ·rw [HP.out k h];simp [h]
    ·obtain rfl:k=j:=by omega
     rw [HT.out];simp
   rw [hok] at HI
   have HB:=hid hbel
   clear hA hok hbel h00
   generalize l[k].kind=f0 at*;generalize l[k].metric=f1 at*
   by_cases hkj:k<j
   ·have hd:(!decide (k<j))=false:=by simp [hkj]
    rw [hd] at HI
    clear hd
    go_wp2_with (go_at_call 172;((with_reducible refine HI.out.mono ?_);rintro e w2 ⟨rfl,hb2⟩))
    go_roundw
    case rel=>exact ⟨k+1,hkj,by go_num,by have:=HB.out;exact Gr⟩
    case measure=>simp [intOf];omega
   ·have hd:(!decide (k<j))=true:=by simp [hkj]
    rw [hd] at HI
    clear hd
    obtain rfl:k=j:=by omega
    have HE:Hid ((if k<L then (k:Int) else -1)=(k:Int)):=if_pos hkL
    go_wp2_with (go_at_call 172;((with_reducible refine HI.out.mono ?_);rintro e w2 ⟨rfl,hb2⟩))
    go_ret
    exact ⟨rfl,by have:=HB.out;exact Gr⟩
  ·have HE:Hid ((if j<L then (j:Int) else -1)= -1):=if_neg (by omega)
   have HB:=hid hbel
   clear hbel
   go_wp2
   go_ret
   exact ⟨rfl,by have:=HB.out;exact Gr⟩
theorem agg_cont (b2:Nat) (v:Value) (l:List AggD) (p:AggD→Bool) (w:World) (hv:AggsSl w v l) (hl:l.length≤1000000) (HF:∀(x:AggD) (W:World),x∈l→Below w.heap.size w W→Calls Tryz.prog 172 #[.agg #[.int .i64 x.kind,.string x.metric],.pointer (some ⟨b2,0,none⟩)] W fun e w'=>e= .returned (.bool (p x))∧Below W.heap.size W w'):
  Calls Tryz.prog 171 #[v,.func (.func 172) #[] #[.pointer (some ⟨b2,0,none⟩)]] w fun e w'=>e= .returned (.bool (l.any p))∧Below w.heap.size w w':=by
 have H:∃r:Int,(l.any p)=decide (0≤r)∧Calls Tryz.prog 214 #[v,.func (.func 172) #[] #[.pointer (some ⟨b2,0,none⟩)]] w fun e w'=>e= .returned (.int .i64 r)∧Below w.heap.size w w':=by
  rcases firstO p l with ⟨h1,h2⟩|⟨h1,j,h2,h3,h4⟩
  ·refine ⟨-1,by rw [h1];rfl,?_⟩
   refine (agg_idx b2 v l p w hv hl HF l.length (Nat.le_refl _) (fun i hi=>h2 i hi) (fun h=>absurd h (Nat.lt_irrefl _))).mono fun e w' ⟨he,hw⟩=>⟨?_,hw⟩
   rw [he,if_neg (Nat.lt_irrefl _)]
  ·refine ⟨j,by rw [h1];simp,?_⟩
   refine (agg_idx b2 v l p w hv hl HF j (by omega) h4 (fun _=>h3)).mono fun e w' ⟨he,hw⟩=>⟨?_,hw⟩
   rw [he,if_pos h2]
 obtain ⟨r,hr,hc⟩:=H
 rw [hr]
 have HC:=hid hc
 clear hr hc HF
 obtain ⟨ao,cap,rfl,_⟩:=agg_parts hv
 clear hv
 go_enter Tryz.func171,Tryz.ntmps171
 go_wp2_with (go_at_call 214;((with_reducible refine (HC.out).mono ?_);rintro e w2 ⟨rfl,hb2⟩))
 go_ret
 exact ⟨rfl,Gr⟩
theorem agg_all (b1:Nat) (v:Value) (l:List AggD) (p:AggD→Bool) (w:World) (hv:AggsSl w v l) (hl:l.length≤1000000) (HF:∀(x:AggD) (W:World),x∈l→Below w.heap.size w W→Calls Tryz.prog 109 #[.agg #[.int .i64 x.kind,.string x.metric],.pointer (some ⟨b1,0,none⟩)] W fun e w'=>e= .returned (.bool (p x))∧Below W.heap.size W w'):
  Calls Tryz.prog 108 #[v,.func (.func 109) #[] #[.pointer (some ⟨b1,0,none⟩)]] w fun e w'=>e= .returned (.bool (l.all p))∧Below w.heap.size w w':=by
 obtain ⟨X,hX⟩:∃X,w.alloc (.cells #[.func (.func 109) #[] #[.pointer (some ⟨b1,0,none⟩)]] 166)=X:=⟨_,rfl⟩
 have hB:Below w.heap.size w X:=by rw [←hX];exact Gr
 have hc:X.cell? ⟨w.heap.size,0,none⟩=some (.func (.func 109) #[] #[.pointer (some ⟨b1,0,none⟩)]):=by subst hX;go_simp
 have HC:=hid (agg_cont w.heap.size v l (fun x=> !p x) X (SlAt.below hv hB) hl (fun x W hx h=>agg_not b1 w.heap.size p x W (cell_step hc h) (fun W2 h2=>HF x W2 hx (hB.trans ((h.step h2).mono hB.size)))))
 have he:l.any (fun x=> !p x)= !l.all p:=by simp [List.any_eq_not_all_not]
 rw [he] at HC
 obtain ⟨ao,cap,rfl,_⟩:=agg_parts hv
 clear he HF hc hv
 subst hX
 generalize l.all p=r at*
 go_enter Tryz.func108,Tryz.ntmps108
 cases r
 ·go_wp2_with (go_at_call 171;go_loud ((with_reducible refine (HC.out).mono ?_);rintro e w2 ⟨rfl,hb2⟩))
  go_ret
  exact ⟨rfl,Gr⟩
 ·go_wp2_with (go_at_call 171;go_loud ((with_reducible refine (HC.out).mono ?_);rintro e w2 ⟨rfl,hb2⟩))
  go_ret
  exact ⟨rfl,Gr⟩
theorem str_not (b1 b2:Nat) (p:ByteArray→Bool) (x:ByteArray) (w:World) (hb:w.cell? ⟨b2,0,none⟩=some (.func (.func 113) #[] #[.pointer (some ⟨b1,0,none⟩)])) (HF:∀W,Below w.heap.size w W→Calls Tryz.prog 113 #[.string x,.pointer (some ⟨b1,0,none⟩)] W fun e w'=>e= .returned (.bool (p x))∧Below W.heap.size W w'):
  Calls Tryz.prog 175 #[.string x,.pointer (some ⟨b2,0,none⟩)] w fun e w'=>e= .returned (.bool (!p x))∧Below w.heap.size w w':=by
 have HG:=hid HF
 have hlt:=World.block_lt_of_cell? _ _ hb
 clear HF
 generalize p x=r at*
 go_enter Tryz.func175,Tryz.ntmps175
 cases r
 ·go_wp2_with (go_at_call 113;go_loud ((with_reducible refine (HG.out _ Gr).mono ?_);rintro e w2 ⟨rfl,hb2⟩))
  go_ret
  exact ⟨rfl,Gr⟩
 ·go_wp2_with (go_at_call 113;go_loud ((with_reducible refine (HG.out _ Gr).mono ?_);rintro e w2 ⟨rfl,hb2⟩))
  go_ret
  exact ⟨rfl,Gr⟩
set_option maxHeartbeats 1000000 in
theorem str_idx (b2:Nat) (v:Value) (l:List ByteArray) (p:ByteArray→Bool) (w:World) (hv:StrsSl w v l) (hl:l.length≤1000000) (HF:∀(x:ByteArray) (W:World),x∈l→Below w.heap.size w W→Calls Tryz.prog 175 #[.string x,.pointer (some ⟨b2,0,none⟩)] W fun e w'=>e= .returned (.bool (p x))∧Below W.heap.size W w') (j:Nat) (hj:j≤l.length) (hpre:∀i (hi:i<j),p (l[i]'(by omega))=false) (hat:∀hj:j<l.length,p l[j]=true):
  Calls Tryz.prog 215 #[v,.func (.func 175) #[] #[.pointer (some ⟨b2,0,none⟩)]] w fun e w'=>e= .returned (.int .i64 (if j<l.length then (j:Int) else -1))∧Below w.heap.size w w':=by
 obtain ⟨ao,cap,rfl,h1,h2,h3,hA⟩:=str_parts hv
 have HA:=hid hA;have HP:=hid hpre;have HT:=hid hat;have HFF:=hid HF
 obtain ⟨L,hL⟩:∃L,l.length=L:=⟨_,rfl⟩
 have HL:=hid hL
 rw [hL] at hj hl h1 ⊢
 clear hpre hat hL hv HF hA
 unfold maxLen at h2
 go_enter Tryz.func215,Tryz.ntmps215
 go_wp2
 go_loopw [8] (fun i wr=>∃k:Nat,k≤j∧i= .int .i64 k∧Below w.heap.size w wr) (fun i _=>L-(intOf i).toNat)
 case atStart=>exact ⟨0,Nat.zero_le _,rfl,Below.refl _ _⟩
 case round=>
  obtain ⟨k,hk,rfl,hbel⟩:=hrel
  by_cases hkL:k<L
  ·have hlen:k<l.length:=by rw [HL.out];exact hkL
   have h00:0<l.length:=by omega
   obtain ⟨b,off,rfl,hA⟩:=HA.out h00
   have c0:=hA k hlen
   replace c0:=cell_step c0 hbel
   have HI:=hid (HFF.out l[k] wr (List.getElem_mem hlen) hbel)
   have hok:p l[k]= !decide (k<j):=by
    by_cases h:k<j
    ·rw [HP.out k h];simp [h]
    ·obtain rfl:k=j:=by omega
     rw [HT.out];simp
   rw [hok] at HI
   have HB:=hid hbel
   clear hA hok hbel h00
   generalize l[k]=f0 at*
   by_cases hkj:k<j
   ·have hd:(!decide (k<j))=false:=by simp [hkj]
    rw [hd] at HI
    clear hd
    go_wp2_with (go_at_call 175;((with_reducible refine HI.out.mono ?_);rintro e w2 ⟨rfl,hb2⟩))
    go_roundw
    case rel=>exact ⟨k+1,hkj,by go_num,by have:=HB.out;exact Gr⟩
    case measure=>simp [intOf];omega
   ·have hd:(!decide (k<j))=true:=by simp [hkj]
    rw [hd] at HI
    clear hd
    obtain rfl:k=j:=by omega
    have HE:Hid ((if k<L then (k:Int) else -1)=(k:Int)):=if_pos hkL
    go_wp2_with (go_at_call 175;((with_reducible refine HI.out.mono ?_);rintro e w2 ⟨rfl,hb2⟩))
    go_ret
    exact ⟨rfl,by have:=HB.out;exact Gr⟩
  ·have HE:Hid ((if j<L then (j:Int) else -1)= -1):=if_neg (by omega)
   have HB:=hid hbel
   clear hbel
   go_wp2
   go_ret
   exact ⟨rfl,by have:=HB.out;exact Gr⟩
theorem str_cont (b2:Nat) (v:Value) (l:List ByteArray) (p:ByteArray→Bool) (w:World) (hv:StrsSl w v l) (hl:l.length≤1000000) (HF:∀(x:ByteArray) (W:World),x∈l→Below w.heap.size w W→Calls Tryz.prog 175 #[.string x,.pointer (some ⟨b2,0,none⟩)] W fun e w'=>e= .returned (.bool (p x))∧Below W.heap.size W w'):
  Calls Tryz.prog 174 #[v,.func (.func 175) #[] #[.pointer (some ⟨b2,0,none⟩)]] w fun e w'=>e= .returned (.bool (l.any p))∧Below w.heap.size w w':=by
 have H:∃r:Int,(l.any p)=decide (0≤r)∧Calls Tryz.prog 215 #[v,.func (.func 175) #[] #[.pointer (some ⟨b2,0,none⟩)]] w fun e w'=>e= .returned (.int .i64 r)∧Below w.heap.size w w':=by
  rcases firstO p l with ⟨h1,h2⟩|⟨h1,j,h2,h3,h4⟩
  ·refine ⟨-1,by rw [h1];rfl,?_⟩
   refine (str_idx b2 v l p w hv hl HF l.length (Nat.le_refl _) (fun i hi=>h2 i hi) (fun h=>absurd h (Nat.lt_irrefl _))).mono fun e w' ⟨he,hw⟩=>⟨?_,hw⟩
   rw [he,if_neg (Nat.lt_irrefl _)]
  ·refine ⟨j,by rw [h1];simp,?_⟩
   refine (str_idx b2 v l p w hv hl HF j (by omega) h4 (fun _=>h3)).mono fun e w' ⟨he,hw⟩=>⟨?_,hw⟩
   rw [he,if_pos h2]
 obtain ⟨r,hr,hc⟩:=H
 rw [hr]
 have HC:=hid hc
 clear hr hc HF
 obtain ⟨ao,cap,rfl,_⟩:=str_parts hv
 clear hv
 go_enter Tryz.func174,Tryz.ntmps174
 go_wp2_with (go_at_call 215;((with_reducible refine (HC.out).mono ?_);rintro e w2 ⟨rfl,hb2⟩))
 go_ret
 exact ⟨rfl,Gr⟩
theorem str_all (b1:Nat) (v:Value) (l:List ByteArray) (p:ByteArray→Bool) (w:World) (hv:StrsSl w v l) (hl:l.length≤1000000) (HF:∀(x:ByteArray) (W:World),x∈l→Below w.heap.size w W→Calls Tryz.prog 113 #[.string x,.pointer (some ⟨b1,0,none⟩)] W fun e w'=>e= .returned (.bool (p x))∧Below W.heap.size W w'):
  Calls Tryz.prog 112 #[v,.func (.func 113) #[] #[.pointer (some ⟨b1,0,none⟩)]] w fun e w'=>e= .returned (.bool (l.all p))∧Below w.heap.size w w':=by
 obtain ⟨X,hX⟩:∃X,w.alloc (.cells #[.func (.func 113) #[] #[.pointer (some ⟨b1,0,none⟩)]] 169)=X:=⟨_,rfl⟩
 have hB:Below w.heap.size w X:=by rw [←hX];exact Gr
 have hc:X.cell? ⟨w.heap.size,0,none⟩=some (.func (.func 113) #[] #[.pointer (some ⟨b1,0,none⟩)]):=by subst hX;go_simp
 have HC:=hid (str_cont w.heap.size v l (fun x=> !p x) X (SlAt.below hv hB) hl (fun x W hx h=>str_not b1 w.heap.size p x W (cell_step hc h) (fun W2 h2=>HF x W2 hx (hB.trans ((h.step h2).mono hB.size)))))
 have he:l.any (fun x=> !p x)= !l.all p:=by simp [List.any_eq_not_all_not]
 rw [he] at HC
 obtain ⟨ao,cap,rfl,_⟩:=str_parts hv
 clear he HF hc hv
 subst hX
 generalize l.all p=r at*
 go_enter Tryz.func112,Tryz.ntmps112
 cases r
 ·go_wp2_with (go_at_call 174;go_loud ((with_reducible refine (HC.out).mono ?_);rintro e w2 ⟨rfl,hb2⟩))
  go_ret
  exact ⟨rfl,Gr⟩
 ·go_wp2_with (go_at_call 174;go_loud ((with_reducible refine (HC.out).mono ?_);rintro e w2 ⟨rfl,hb2⟩))
  go_ret
  exact ⟨rfl,Gr⟩
theorem cond_not (b1 b2:Nat) (p:CondD→Bool) (x:CondD) (w:World) (hb:w.cell? ⟨b2,0,none⟩=some (.func (.func 118) #[] #[.pointer (some ⟨b1,0,none⟩)])) (HF:∀W,Below w.heap.size w W→Calls Tryz.prog 118 #[.agg #[.int .i64 x.pos,.int .i64 x.op,.int .i64 x.n],.pointer (some ⟨b1,0,none⟩)] W fun e w'=>e= .returned (.bool (p x))∧Below W.heap.size W w'):
  Calls Tryz.prog 178 #[.agg #[.int .i64 x.pos,.int .i64 x.op,.int .i64 x.n],.pointer (some ⟨b2,0,none⟩)] w fun e w'=>e= .returned (.bool (!p x))∧Below w.heap.size w w':=by
 have HG:=hid HF
 have hlt:=World.block_lt_of_cell? _ _ hb
 clear HF
 generalize p x=r at*
 generalize x.pos=f0 at*;generalize x.op=f1 at*;generalize x.n=f2 at*
 go_enter Tryz.func178,Tryz.ntmps178
 cases r
 ·go_wp2_with (go_at_call 118;go_loud ((with_reducible refine (HG.out _ Gr).mono ?_);rintro e w2 ⟨rfl,hb2⟩))
  go_ret
  exact ⟨rfl,Gr⟩
 ·go_wp2_with (go_at_call 118;go_loud ((with_reducible refine (HG.out _ Gr).mono ?_);rintro e w2 ⟨rfl,hb2⟩))
  go_ret
  exact ⟨rfl,Gr⟩
set_option maxHeartbeats 1000000 in
theorem cond_idx (b2:Nat) (v:Value) (l:List CondD) (p:CondD→Bool) (w:World) (hv:CondsSl w v l) (hl:l.length≤1000000) (HF:∀(x:CondD) (W:World),x∈l→Below w.heap.size w W→Calls Tryz.prog 178 #[.agg #[.int .i64 x.pos,.int .i64 x.op,.int .i64 x.n],.pointer (some ⟨b2,0,none⟩)] W fun e w'=>e= .returned (.bool (p x))∧Below W.heap.size W w') (j:Nat) (hj:j≤l.length) (hpre:∀i (hi:i<j),p (l[i]'(by omega))=false) (hat:∀hj:j<l.length,p l[j]=true):
  Calls Tryz.prog 66 #[v,.func (.func 178) #[] #[.pointer (some ⟨b2,0,none⟩)]] w fun e w'=>e= .returned (.int .i64 (if j<l.length then (j:Int) else -1))∧Below w.heap.size w w':=by
 obtain ⟨ao,cap,rfl,h1,h2,h3,hA⟩:=cond_parts hv
 have HA:=hid hA;have HP:=hid hpre;have HT:=hid hat;have HFF:=hid HF
 obtain ⟨L,hL⟩:∃L,l.length=L:=⟨_,rfl⟩
 have HL:=hid hL
 rw [hL] at hj hl h1 ⊢
 clear hpre hat hL hv HF hA
 unfold maxLen at h2
 go_enter Tryz.func66,Tryz.ntmps66
 go_wp2
 go_loopw [8] (fun i wr=>∃k:Nat,k≤j∧i= .int .i64 k∧Below w.heap.size w wr) (fun i _=>L-(intOf i).toNat)
 case atStart=>exact ⟨0,Nat.zero_le _,rfl,Below.refl _ _⟩
 case round=>
  obtain ⟨k,hk,rfl,hbel⟩:=hrel
  by_cases hkL:k<L
  ·have hlen:k<l.length:=by rw [HL.out];exact hkL
   have h00:0<l.length:=by omega
   obtain ⟨b,off,rfl,hA⟩:=HA.out h00
   obtain ⟨c0,c1,c2⟩:=hA k hlen
   replace c0:=cell_step c0 hbel;replace c1:=cell_step c1 hbel;replace c2:=cell_step c2 hbel
   have HI:=hid (HFF.out l[k] wr (List.getElem_mem hlen) hbel)
   have hok:p l[k]= !decide (k<j):=by
    by_cases h:k<j
    ·rw [HP.out k h];simp [h]
    ·obtain rfl:k=j:=by omega
     rw [HT.out];simp
   rw [hok] at HI
   have HB:=hid hbel
   clear hA hok hbel h00
   generalize l[k].pos=f0 at*;generalize l[k].op=f1 at*;generalize l[k].n=f2 at*
   by_cases hkj:k<j
   ·have hd:(!decide (k<j))=false:=by simp [hkj]
    rw [hd] at HI
    clear hd
    go_wp2_with (go_at_call 178;((with_reducible refine HI.out.mono ?_);rintro e w2 ⟨rfl,hb2⟩))
    go_roundw
    case rel=>exact ⟨k+1,hkj,by go_num,by have:=HB.out;exact Gr⟩
    case measure=>simp [intOf];omega
   ·have hd:(!decide (k<j))=true:=by simp [hkj]
    rw [hd] at HI
    clear hd
    obtain rfl:k=j:=by omega
    have HE:Hid ((if k<L then (k:Int) else -1)=(k:Int)):=if_pos hkL
    go_wp2_with (go_at_call 178;((with_reducible refine HI.out.mono ?_);rintro e w2 ⟨rfl,hb2⟩))
    go_ret
    exact ⟨rfl,by have:=HB.out;exact Gr⟩
  ·have HE:Hid ((if j<L then (j:Int) else -1)= -1):=if_neg (by omega)
   have HB:=hid hbel
   clear hbel
   go_wp2
   go_ret
   exact ⟨rfl,by have:=HB.out;exact Gr⟩
theorem cond_cont (b2:Nat) (v:Value) (l:List CondD) (p:CondD→Bool) (w:World) (hv:CondsSl w v l) (hl:l.length≤1000000) (HF:∀(x:CondD) (W:World),x∈l→Below w.heap.size w W→Calls Tryz.prog 178 #[.agg #[.int .i64 x.pos,.int .i64 x.op,.int .i64 x.n],.pointer (some ⟨b2,0,none⟩)] W fun e w'=>e= .returned (.bool (p x))∧Below W.heap.size W w'):
  Calls Tryz.prog 30 #[v,.func (.func 178) #[] #[.pointer (some ⟨b2,0,none⟩)]] w fun e w'=>e= .returned (.bool (l.any p))∧Below w.heap.size w w':=by
 have H:∃r:Int,(l.any p)=decide (0≤r)∧Calls Tryz.prog 66 #[v,.func (.func 178) #[] #[.pointer (some ⟨b2,0,none⟩)]] w fun e w'=>e= .returned (.int .i64 r)∧Below w.heap.size w w':=by
  rcases firstO p l with ⟨h1,h2⟩|⟨h1,j,h2,h3,h4⟩
  ·refine ⟨-1,by rw [h1];rfl,?_⟩
   refine (cond_idx b2 v l p w hv hl HF l.length (Nat.le_refl _) (fun i hi=>h2 i hi) (fun h=>absurd h (Nat.lt_irrefl _))).mono fun e w' ⟨he,hw⟩=>⟨?_,hw⟩
   rw [he,if_neg (Nat.lt_irrefl _)]
  ·refine ⟨j,by rw [h1];simp,?_⟩
   refine (cond_idx b2 v l p w hv hl HF j (by omega) h4 (fun _=>h3)).mono fun e w' ⟨he,hw⟩=>⟨?_,hw⟩
   rw [he,if_pos h2]
 obtain ⟨r,hr,hc⟩:=H
 rw [hr]
 have HC:=hid hc
 clear hr hc HF
 obtain ⟨ao,cap,rfl,_⟩:=cond_parts hv
 clear hv
 go_enter Tryz.func30,Tryz.ntmps30
 go_wp2_with (go_at_call 66;((with_reducible refine (HC.out).mono ?_);rintro e w2 ⟨rfl,hb2⟩))
 go_ret
 exact ⟨rfl,Gr⟩
theorem cond_all (b1:Nat) (v:Value) (l:List CondD) (p:CondD→Bool) (w:World) (hv:CondsSl w v l) (hl:l.length≤1000000) (HF:∀(x:CondD) (W:World),x∈l→Below w.heap.size w W→Calls Tryz.prog 118 #[.agg #[.int .i64 x.pos,.int .i64 x.op,.int .i64 x.n],.pointer (some ⟨b1,0,none⟩)] W fun e w'=>e= .returned (.bool (p x))∧Below W.heap.size W w'):
  Calls Tryz.prog 117 #[v,.func (.func 118) #[] #[.pointer (some ⟨b1,0,none⟩)]] w fun e w'=>e= .returned (.bool (l.all p))∧Below w.heap.size w w':=by
 obtain ⟨X,hX⟩:∃X,w.alloc (.cells #[.func (.func 118) #[] #[.pointer (some ⟨b1,0,none⟩)]] 84)=X:=⟨_,rfl⟩
 have hB:Below w.heap.size w X:=by rw [←hX];exact Gr
 have hc:X.cell? ⟨w.heap.size,0,none⟩=some (.func (.func 118) #[] #[.pointer (some ⟨b1,0,none⟩)]):=by subst hX;go_simp
 have HC:=hid (cond_cont w.heap.size v l (fun x=> !p x) X (SlAt.below hv hB) hl (fun x W hx h=>cond_not b1 w.heap.size p x W (cell_step hc h) (fun W2 h2=>HF x W2 hx (hB.trans ((h.step h2).mono hB.size)))))
 have he:l.any (fun x=> !p x)= !l.all p:=by simp [List.any_eq_not_all_not]
 rw [he] at HC
 obtain ⟨ao,cap,rfl,_⟩:=cond_parts hv
 clear he HF hc hv
 subst hX
 generalize l.all p=r at*
 go_enter Tryz.func117,Tryz.ntmps117
 cases r
 ·go_wp2_with (go_at_call 30;go_loud ((with_reducible refine (HC.out).mono ?_);rintro e w2 ⟨rfl,hb2⟩))
  go_ret
  exact ⟨rfl,Gr⟩
 ·go_wp2_with (go_at_call 30;go_loud ((with_reducible refine (HC.out).mono ?_);rintro e w2 ⟨rfl,hb2⟩))
  go_ret
  exact ⟨rfl,Gr⟩
theorem key_not (b1 b2:Nat) (p:KeyD→Bool) (x:KeyD) (w:World) (hb:w.cell? ⟨b2,0,none⟩=some (.func (.func 120) #[] #[.pointer (some ⟨b1,0,none⟩)])) (HF:∀W,Below w.heap.size w W→Calls Tryz.prog 120 #[.agg #[.bool x.agg,.int .i64 x.pos,.bool x.desc],.pointer (some ⟨b1,0,none⟩)] W fun e w'=>e= .returned (.bool (p x))∧Below W.heap.size W w'):
  Calls Tryz.prog 180 #[.agg #[.bool x.agg,.int .i64 x.pos,.bool x.desc],.pointer (some ⟨b2,0,none⟩)] w fun e w'=>e= .returned (.bool (!p x))∧Below w.heap.size w w':=by
 have HG:=hid HF
 have hlt:=World.block_lt_of_cell? _ _ hb
 clear HF
 generalize p x=r at*
 generalize x.agg=f0 at*;generalize x.pos=f1 at*;generalize x.desc=f2 at*
 go_enter Tryz.func180,Tryz.ntmps180
 cases r
 ·go_wp2_with (go_at_call 120;go_loud ((with_reducible refine (HG.out _ Gr).mono ?_);rintro e w2 ⟨rfl,hb2⟩))
  go_ret
  exact ⟨rfl,Gr⟩
 ·go_wp2_with (go_at_call 120;go_loud ((with_reducible refine (HG.out _ Gr).mono ?_);rintro e w2 ⟨rfl,hb2⟩))
  go_ret
  exact ⟨rfl,Gr⟩
set_option maxHeartbeats 1000000 in
theorem key_idx (b2:Nat) (v:Value) (l:List KeyD) (p:KeyD→Bool) (w:World) (hv:KeysSl w v l) (hl:l.length≤1000000) (HF:∀(x:KeyD) (W:World),x∈l→Below w.heap.size w W→Calls Tryz.prog 180 #[.agg #[.bool x.agg,.int .i64 x.pos,.bool x.desc],.pointer (some ⟨b2,0,none⟩)] W fun e w'=>e= .returned (.bool (p x))∧Below W.heap.size W w') (j:Nat) (hj:j≤l.length) (hpre:∀i (hi:i<j),p (l[i]'(by omega))=false) (hat:∀hj:j<l.length,p l[j]=true):
  Calls Tryz.prog 217 #[v,.func (.func 180) #[] #[.pointer (some ⟨b2,0,none⟩)]] w fun e w'=>e= .returned (.int .i64 (if j<l.length then (j:Int) else -1))∧Below w.heap.size w w':=by
 obtain ⟨ao,cap,rfl,h1,h2,h3,hA⟩:=key_parts hv
 have HA:=hid hA;have HP:=hid hpre;have HT:=hid hat;have HFF:=hid HF
 obtain ⟨L,hL⟩:∃L,l.length=L:=⟨_,rfl⟩
 have HL:=hid hL
 rw [hL] at hj hl h1 ⊢
 clear hpre hat hL hv HF hA
 unfold maxLen at h2
 go_enter Tryz.func217,Tryz.ntmps217
 go_wp2
 go_loopw [8] (fun i wr=>∃k:Nat,k≤j∧i= .int .i64 k∧Below w.heap.size w wr) (fun i _=>L-(intOf i).toNat)
 case atStart=>exact ⟨0,Nat.zero_le _,rfl,Below.refl _ _⟩
 case round=>
  obtain ⟨k,hk,rfl,hbel⟩:=hrel
  by_cases hkL:k<L
  ·have hlen:k<l.length:=by rw [HL.out];exact hkL
   have h00:0<l.length:=by omega
   obtain ⟨b,off,rfl,hA⟩:=HA.out h00
   obtain ⟨c0,c1,c2⟩:=hA k hlen
   replace c0:=cell_step c0 hbel;replace c1:=cell_step c1 hbel;replace c2:=cell_step c2 hbel
   have HI:=hid (HFF.out l[k] wr (List.getElem_mem hlen) hbel)
   have hok:p l[k]= !decide (k<j):=by
    by_cases h:k<j
    ·rw [HP.out k h];simp [h]
    ·obtain rfl:k=j:=by omega
     rw [HT.out];simp
   rw [hok] at HI
   have HB:=hid hbel
   clear hA hok hbel h00
   generalize l[k].agg=f0 at*;generalize l[k].pos=f1 at*;generalize l[k].desc=f2 at*
   by_cases hkj:k<j
   ·have hd:(!decide (k<j))=false:=by simp [hkj]
    rw [hd] at HI
    clear hd
    go_wp2_with (go_at_call 180;((with_reducible refine HI.out.mono ?_);rintro e w2 ⟨rfl,hb2⟩))
    go_roundw
    case rel=>exact ⟨k+1,hkj,by go_num,by have:=HB.out;exact Gr⟩
    case measure=>simp [intOf];omega
   ·have hd:(!decide (k<j))=true:=by simp [hkj]
    rw [hd] at HI
    clear hd
    obtain rfl:k=j:=by omega
    have HE:Hid ((if k<L then (k:Int) else -1)=(k:Int)):=if_pos hkL
    go_wp2_with (go_at_call 180;((with_reducible refine HI.out.mono ?_);rintro e w2 ⟨rfl,hb2⟩))
    go_ret
    exact ⟨rfl,by have:=HB.out;exact Gr⟩
  ·have HE:Hid ((if j<L then (j:Int) else -1)= -1):=if_neg (by omega)
   have HB:=hid hbel
   clear hbel
   go_wp2
   go_ret
   exact ⟨rfl,by have:=HB.out;exact Gr⟩
theorem key_cont (b2:Nat) (v:Value) (l:List KeyD) (p:KeyD→Bool) (w:World) (hv:KeysSl w v l) (hl:l.length≤1000000) (HF:∀(x:KeyD) (W:World),x∈l→Below w.heap.size w W→Calls Tryz.prog 180 #[.agg #[.bool x.agg,.int .i64 x.pos,.bool x.desc],.pointer (some ⟨b2,0,none⟩)] W fun e w'=>e= .returned (.bool (p x))∧Below W.heap.size W w'):
  Calls Tryz.prog 179 #[v,.func (.func 180) #[] #[.pointer (some ⟨b2,0,none⟩)]] w fun e w'=>e= .returned (.bool (l.any p))∧Below w.heap.size w w':=by
 have H:∃r:Int,(l.any p)=decide (0≤r)∧Calls Tryz.prog 217 #[v,.func (.func 180) #[] #[.pointer (some ⟨b2,0,none⟩)]] w fun e w'=>e= .returned (.int .i64 r)∧Below w.heap.size w w':=by
  rcases firstO p l with ⟨h1,h2⟩|⟨h1,j,h2,h3,h4⟩
  ·refine ⟨-1,by rw [h1];rfl,?_⟩
   refine (key_idx b2 v l p w hv hl HF l.length (Nat.le_refl _) (fun i hi=>h2 i hi) (fun h=>absurd h (Nat.lt_irrefl _))).mono fun e w' ⟨he,hw⟩=>⟨?_,hw⟩
   rw [he,if_neg (Nat.lt_irrefl _)]
  ·refine ⟨j,by rw [h1];simp,?_⟩
   refine (key_idx b2 v l p w hv hl HF j (by omega) h4 (fun _=>h3)).mono fun e w' ⟨he,hw⟩=>⟨?_,hw⟩
   rw [he,if_pos h2]
 obtain ⟨r,hr,hc⟩:=H
 rw [hr]
 have HC:=hid hc
 clear hr hc HF
 obtain ⟨ao,cap,rfl,_⟩:=key_parts hv
 clear hv
 go_enter Tryz.func179,Tryz.ntmps179
 go_wp2_with (go_at_call 217;((with_reducible refine (HC.out).mono ?_);rintro e w2 ⟨rfl,hb2⟩))
 go_ret
 exact ⟨rfl,Gr⟩
theorem key_all (b1:Nat) (v:Value) (l:List KeyD) (p:KeyD→Bool) (w:World) (hv:KeysSl w v l) (hl:l.length≤1000000) (HF:∀(x:KeyD) (W:World),x∈l→Below w.heap.size w W→Calls Tryz.prog 120 #[.agg #[.bool x.agg,.int .i64 x.pos,.bool x.desc],.pointer (some ⟨b1,0,none⟩)] W fun e w'=>e= .returned (.bool (p x))∧Below W.heap.size W w'):
  Calls Tryz.prog 119 #[v,.func (.func 120) #[] #[.pointer (some ⟨b1,0,none⟩)]] w fun e w'=>e= .returned (.bool (l.all p))∧Below w.heap.size w w':=by
 obtain ⟨X,hX⟩:∃X,w.alloc (.cells #[.func (.func 120) #[] #[.pointer (some ⟨b1,0,none⟩)]] 173)=X:=⟨_,rfl⟩
 have hB:Below w.heap.size w X:=by rw [←hX];exact Gr
 have hc:X.cell? ⟨w.heap.size,0,none⟩=some (.func (.func 120) #[] #[.pointer (some ⟨b1,0,none⟩)]):=by subst hX;go_simp
 have HC:=hid (key_cont w.heap.size v l (fun x=> !p x) X (SlAt.below hv hB) hl (fun x W hx h=>key_not b1 w.heap.size p x W (cell_step hc h) (fun W2 h2=>HF x W2 hx (hB.trans ((h.step h2).mono hB.size)))))
 have he:l.any (fun x=> !p x)= !l.all p:=by simp [List.any_eq_not_all_not]
 rw [he] at HC
 obtain ⟨ao,cap,rfl,_⟩:=key_parts hv
 clear he HF hc hv
 subst hX
 generalize l.all p=r at*
 go_enter Tryz.func119,Tryz.ntmps119
 cases r
 ·go_wp2_with (go_at_call 179;go_loud ((with_reducible refine (HC.out).mono ?_);rintro e w2 ⟨rfl,hb2⟩))
  go_ret
  exact ⟨rfl,Gr⟩
 ·go_wp2_with (go_at_call 179;go_loud ((with_reducible refine (HC.out).mono ?_);rintro e w2 ⟨rfl,hb2⟩))
  go_ret
  exact ⟨rfl,Gr⟩
theorem set_not (b1 b2:Nat) (p:List ByteArray→Bool) (x:List ByteArray) (vx:Value) (w:World) (hx:StrsSl w vx x) (hb:w.cell? ⟨b2,0,none⟩=some (.func (.func 116) #[] #[.pointer (some ⟨b1,0,none⟩)])) (HF:∀W,Below w.heap.size w W→Calls Tryz.prog 116 #[vx,.pointer (some ⟨b1,0,none⟩)] W fun e w'=>e= .returned (.bool (p x))∧Below W.heap.size W w'):
  Calls Tryz.prog 177 #[vx,.pointer (some ⟨b2,0,none⟩)] w fun e w'=>e= .returned (.bool (!p x))∧Below w.heap.size w w':=by
 obtain ⟨_,_,rfl,_⟩:=SlAt.shape hx
 clear hx
 have HG:=hid HF
 have hlt:=World.block_lt_of_cell? _ _ hb
 clear HF
 generalize p x=r at*
 go_enter Tryz.func177,Tryz.ntmps177
 cases r
 ·go_wp2_with (go_at_call 116;go_loud ((with_reducible refine (HG.out _ Gr).mono ?_);rintro e w2 ⟨rfl,hb2⟩))
  go_ret
  exact ⟨rfl,Gr⟩
 ·go_wp2_with (go_at_call 116;go_loud ((with_reducible refine (HG.out _ Gr).mono ?_);rintro e w2 ⟨rfl,hb2⟩))
  go_ret
  exact ⟨rfl,Gr⟩
set_option maxHeartbeats 1000000 in
theorem set_idx (b2:Nat) (v:Value) (l:List (List ByteArray)) (p:(List ByteArray)→Bool) (w:World) (hv:SetsSl w v l) (hl:l.length≤1000000) (HF:∀(x:List ByteArray) (vx:Value) (W:World),x∈l→StrsSl W vx x→Below w.heap.size w W→Calls Tryz.prog 177 #[vx,.pointer (some ⟨b2,0,none⟩)] W fun e w'=>e= .returned (.bool (p x))∧Below W.heap.size W w') (j:Nat) (hj:j≤l.length) (hpre:∀i (hi:i<j),p (l[i]'(by omega))=false) (hat:∀hj:j<l.length,p l[j]=true):
  Calls Tryz.prog 216 #[v,.func (.func 177) #[] #[.pointer (some ⟨b2,0,none⟩)]] w fun e w'=>e= .returned (.int .i64 (if j<l.length then (j:Int) else -1))∧Below w.heap.size w w':=by
 obtain ⟨ao,cap,rfl,h1,h2,h3,hA⟩:=set_parts hv
 have HA:=hid hA;have HP:=hid hpre;have HT:=hid hat;have HFF:=hid HF
 obtain ⟨L,hL⟩:∃L,l.length=L:=⟨_,rfl⟩
 have HL:=hid hL
 rw [hL] at hj hl h1 ⊢
 clear hpre hat hL hv HF hA
 unfold maxLen at h2
 go_enter Tryz.func216,Tryz.ntmps216
 go_wp2
 go_loopw [8] (fun i wr=>∃k:Nat,k≤j∧i= .int .i64 k∧Below w.heap.size w wr) (fun i _=>L-(intOf i).toNat)
 case atStart=>exact ⟨0,Nat.zero_le _,rfl,Below.refl _ _⟩
 case round=>
  obtain ⟨k,hk,rfl,hbel⟩:=hrel
  by_cases hkL:k<L
  ·have hlen:k<l.length:=by rw [HL.out];exact hkL
   have h00:0<l.length:=by omega
   obtain ⟨b,off,rfl,hA⟩:=HA.out h00
   obtain ⟨vx,c0,gx⟩:=hA k hlen
   replace c0:=cell_step c0 hbel
   have HI:=hid (HFF.out l[k] vx wr (List.getElem_mem hlen) (gx.below hbel) hbel)
   obtain ⟨_,_,rfl,_⟩:=SlAt.shape gx
   clear gx
   have hok:p l[k]= !decide (k<j):=by
    by_cases h:k<j
    ·rw [HP.out k h];simp [h]
    ·obtain rfl:k=j:=by omega
     rw [HT.out];simp
   rw [hok] at HI
   have HB:=hid hbel
   clear hA hok hbel h00
   generalize l[k].length=lk at*
   by_cases hkj:k<j
   ·have hd:(!decide (k<j))=false:=by simp [hkj]
    rw [hd] at HI
    clear hd
    go_wp2_with (go_at_call 177;((with_reducible refine HI.out.mono ?_);rintro e w2 ⟨rfl,hb2⟩))
    go_roundw
    case rel=>exact ⟨k+1,hkj,by go_num,by have:=HB.out;exact Gr⟩
    case measure=>simp [intOf];omega
   ·have hd:(!decide (k<j))=true:=by simp [hkj]
    rw [hd] at HI
    clear hd
    obtain rfl:k=j:=by omega
    have HE:Hid ((if k<L then (k:Int) else -1)=(k:Int)):=if_pos hkL
    go_wp2_with (go_at_call 177;((with_reducible refine HI.out.mono ?_);rintro e w2 ⟨rfl,hb2⟩))
    go_ret
    exact ⟨rfl,by have:=HB.out;exact Gr⟩
  ·have HE:Hid ((if j<L then (j:Int) else -1)= -1):=if_neg (by omega)
   have HB:=hid hbel
   clear hbel
   go_wp2
   go_ret
   exact ⟨rfl,by have:=HB.out;exact Gr⟩
theorem set_cont (b2:Nat) (v:Value) (l:List (List ByteArray)) (p:(List ByteArray)→Bool) (w:World) (hv:SetsSl w v l) (hl:l.length≤1000000) (HF:∀(x:List ByteArray) (vx:Value) (W:World),x∈l→StrsSl W vx x→Below w.heap.size w W→Calls Tryz.prog 177 #[vx,.pointer (some ⟨b2,0,none⟩)] W fun e w'=>e= .returned (.bool (p x))∧Below W.heap.size W w'):
  Calls Tryz.prog 176 #[v,.func (.func 177) #[] #[.pointer (some ⟨b2,0,none⟩)]] w fun e w'=>e= .returned (.bool (l.any p))∧Below w.heap.size w w':=by
 have H:∃r:Int,(l.any p)=decide (0≤r)∧Calls Tryz.prog 216 #[v,.func (.func 177) #[] #[.pointer (some ⟨b2,0,none⟩)]] w fun e w'=>e= .returned (.int .i64 r)∧Below w.heap.size w w':=by
  rcases firstO p l with ⟨h1,h2⟩|⟨h1,j,h2,h3,h4⟩
  ·refine ⟨-1,by rw [h1];rfl,?_⟩
   refine (set_idx b2 v l p w hv hl HF l.length (Nat.le_refl _) (fun i hi=>h2 i hi) (fun h=>absurd h (Nat.lt_irrefl _))).mono fun e w' ⟨he,hw⟩=>⟨?_,hw⟩
   rw [he,if_neg (Nat.lt_irrefl _)]
  ·refine ⟨j,by rw [h1];simp,?_⟩
   refine (set_idx b2 v l p w hv hl HF j (by omega) h4 (fun _=>h3)).mono fun e w' ⟨he,hw⟩=>⟨?_,hw⟩
   rw [he,if_pos h2]
 obtain ⟨r,hr,hc⟩:=H
 rw [hr]
 have HC:=hid hc
 clear hr hc HF
 obtain ⟨ao,cap,rfl,_⟩:=set_parts hv
 clear hv
 go_enter Tryz.func176,Tryz.ntmps176
 go_wp2_with (go_at_call 216;((with_reducible refine (HC.out).mono ?_);rintro e w2 ⟨rfl,hb2⟩))
 go_ret
 exact ⟨rfl,Gr⟩
theorem set_all (b1:Nat) (v:Value) (l:List (List ByteArray)) (p:(List ByteArray)→Bool) (w:World) (hv:SetsSl w v l) (hl:l.length≤1000000) (HF:∀(x:List ByteArray) (vx:Value) (W:World),x∈l→StrsSl W vx x→Below w.heap.size w W→Calls Tryz.prog 116 #[vx,.pointer (some ⟨b1,0,none⟩)] W fun e w'=>e= .returned (.bool (p x))∧Below W.heap.size W w'):
  Calls Tryz.prog 115 #[v,.func (.func 116) #[] #[.pointer (some ⟨b1,0,none⟩)]] w fun e w'=>e= .returned (.bool (l.all p))∧Below w.heap.size w w':=by
 obtain ⟨X,hX⟩:∃X,w.alloc (.cells #[.func (.func 116) #[] #[.pointer (some ⟨b1,0,none⟩)]] 171)=X:=⟨_,rfl⟩
 have hB:Below w.heap.size w X:=by rw [←hX];exact Gr
 have hc:X.cell? ⟨w.heap.size,0,none⟩=some (.func (.func 116) #[] #[.pointer (some ⟨b1,0,none⟩)]):=by subst hX;go_simp
 have HC:=hid (set_cont w.heap.size v l (fun x=> !p x) X (SetsSl.below hv hB) hl (fun x vx W hx gx h=>set_not b1 w.heap.size p x vx W gx (cell_step hc h) (fun W2 h2=>HF x vx W2 hx (gx.below h2) (hB.trans ((h.step h2).mono hB.size)))))
 have he:l.any (fun x=> !p x)= !l.all p:=by simp [List.any_eq_not_all_not]
 rw [he] at HC
 obtain ⟨ao,cap,rfl,_⟩:=set_parts hv
 clear he HF hc hv
 subst hX
 generalize l.all p=r at*
 go_enter Tryz.func115,Tryz.ntmps115
 cases r
 ·go_wp2_with (go_at_call 176;go_loud ((with_reducible refine (HC.out).mono ?_);rintro e w2 ⟨rfl,hb2⟩))
  go_ret
  exact ⟨rfl,Gr⟩
 ·go_wp2_with (go_at_call 176;go_loud ((with_reducible refine (HC.out).mono ?_);rintro e w2 ⟨rfl,hb2⟩))
  go_ret
  exact ⟨rfl,Gr⟩
end Go.Proofs.YtejleplhmkmegaaGreatDoor
