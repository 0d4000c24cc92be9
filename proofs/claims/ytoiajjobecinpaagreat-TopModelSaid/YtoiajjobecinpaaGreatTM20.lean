/- A ready task leaves its core; Sleep. Weigh: another weight for a task. -/
import Derived.Test.YtoiajjobecinpaaGreatTM17
set_option maxHeartbeats 4000000
set_option maxRecDepth 100000
namespace Go.Proofs.YtoiajjobecinpaaGreat
open Go.RowKit Go.Shelf Go.Lib Go.Proofs
set_option linter.unusedVariables false
set_option linter.unusedSimpArgs false
def wi (t:Tk) (x:Int):Tk:=⟨t.id,t.w,t.group,t.core,t.state,t.mask,x⟩
def zn (s:Sy) (id:Int) (t:Tk) (i:Nat):Sy:=
 if t.state=2 then setTk (zN s i (zh s.cores[i]! t.id).2.2) id (wi t (zh s.cores[i]! t.id).1) else s
def leaveT (s:Sy) (t:Tk) (i:Nat):Tk:=if t.state=2 then wi t (zh s.cores[i]! t.id).1 else t
theorem TaskAt.setLag {W:World} {b:Nat} {t:Tk} (h:TaskAt W b t) (x:Int):TaskAt (W.setCell ⟨b,6,none⟩ (I x)) b (wi t x):=by
 refine⟨?_,?_,?_,?_,?_,?_,World.cell?_setCell_same _ _ _ h.lag,fun i=>(World.frozen?_setCell _ _ _ _).trans (h.live i)⟩
 · rw[za _ (by simp)];exact h.id
 · rw[za _ (by simp)];exact h.w
 · rw[za _ (by simp)];exact h.group
 · rw[za _ (by simp)];exact h.core
 · rw[za _ (by simp)];exact h.state
 · rw[za _ (by simp)];exact h.mask
theorem J3 {W:World} {sb g b:Nat} {o:Nat} {v1 v2 v3 v4:Value} (h:(W.cell? ⟨sb,0,none⟩=some v1/\W.cell? ⟨g,o,none⟩=some v2)/\W.cell? ⟨b,0,none⟩=some v3/\W.cell? ⟨b,3,none⟩=some v4) (h1:sb≠b) (h2:g≠b) (x:Value) :
 ((W.setCell ⟨b,6,none⟩ x).cell? ⟨sb,0,none⟩=some v1/\(W.setCell ⟨b,6,none⟩ x).cell? ⟨g,o,none⟩=some v2)/\(W.setCell ⟨b,6,none⟩ x).cell? ⟨b,0,none⟩=some v3/\(W.setCell ⟨b,6,none⟩ x).cell? ⟨b,3,none⟩=some v4:=by
 refine⟨⟨?_,?_⟩,?_,?_⟩
 · rw[za _ (by simp[h1])];exact h.1.1
 · rw[za _ (by simp[h2])];exact h.1.2
 · rw[za _ (by simp)];exact h.2.1
 · rw[za _ (by simp)];exact h.2.2
def YO (sb gb nb pb mb n:Nat) (cv:Value) (D:DataW Unit) (cbs:List Nat) (tb:Int->Nat) (own:Nat->Option Own) (s':Sy) (W w':World):Prop:=
 SysAt w' sb gb nb pb mb n cv D cbs tb own s'/\Touch (fun k=>own k≠none) W w'
theorem SysAt.setCore0 {W W':World} {sb gb nb pb mb n:Nat} {cv:Value} {D:DataW Unit} {cbs:List Nat} {tb:Int->Nat} {own:Nat->Option Own} {s:Sy} (h:SysAt W sb gb nb pb mb n cv D cbs tb own s)
 {i:Nat} (hi:i<cbs.length) {c':Co} (hc:zo W' cbs[i]! (fun k=>own k=some (.core i)) c') (ht:Touch (fun k=>own k=some (.core i)) W W') :
 SysAt W' sb gb nb pb mb n cv D cbs tb own ⟨s.cores.set i c',s.gs,s.acc,s.ps,s.tasks,s.cnt⟩:=by
 have hb:∀k x,own k=some x->x≠.core i->W'.heap[k]? = W.heap[k]?:=fun k x hk hx=>ht.block k (h.lt k (by rw[hk];simp)) (by rw[hk];simpa using hx);have bsb:=hb sb _ h.osb (by simp);have h0:∀i,W'.cell? ⟨sb,i,none⟩=W.cell? ⟨sb,i,none⟩:=fun i=>World.cell?_of_block bsb;have h1:∀i,W'.frozen? ⟨sb,i,none⟩=W.frozen? ⟨sb,i,none⟩:=fun i=>World.frozen?_of_block bsb;have nF:∀k,own k≠none->k<W'.heap.size:=fun k hk=>Nat.lt_of_lt_of_le (h.lt k hk) ht.size;refine⟨(h0 _).trans h.head,(h0 _).trans h.c1,fun j hj=>?_,(h0 _).trans h.c66,(h0 _).trans h.c67,fun j=>(h1 j).trans (h.live j),h.groups.same (hb gb _ h.ogb (by simp)),h.slots.same (hb nb _ h.onb (by simp)) (hb pb _ h.opb (by simp)),
  yc h.map (hb mb _ h.omb (by simp)),h.cnt,h.reads,fun id t hid=>?_,zb h.row (fun k hk=>hb k _ (h.rown k hk) (by simp)),h.rown,by rw[List.length_set];exact h.num,fun j hj=>?_,
  h.osb,h.ogb,h.onb,h.opb,h.omb,nF⟩
 · obtain⟨a1,a2,a3,a4⟩:=h.acc j hj;exact⟨(h0 _).trans a1,(h0 _).trans a2,(h0 _).trans a3,(h0 _).trans a4⟩
 · obtain⟨t1,t2⟩:=h.task id t hid;exact⟨t1.same (hb _ _ t2 (by simp)),t2⟩
 · simp only
   rw[yL _ _ _ _ (by rw[<- h.num];exact hj)];by_cases e:i=j
   · subst e;rw[if_pos rfl];exact hc
   · rw[if_neg e];have sA:=h.core j hj;exact sA.same ht.size (fun k hk=>hb k _ hk (by simp;omega))
theorem X8 (sb gb nb pb mb n:Nat) (cv:Value) (D:DataW Unit) (cbs:List Nat) (tb:Int->Nat) (own:Nat->Option Own) (s:Sy) (id:Int) (t:Tk) (i:Nat) (W:World) (h:SysAt W sb gb nb pb mb n cv D cbs tb own s)
 (ht:s.tasks id=some t) (hi:t.state=2->t.core=(i:Int)/\i<cbs.length) (hf:xT s) :
 Calls Tryz.prog 105 #[.pointer (some ⟨sb,0,none⟩),.pointer (some ⟨tb id,0,none⟩)] W fun e w'=>e=.returned (.tuple #[]) /\
  YO sb gb nb pb mb n cv D cbs tb own (zn s id t i) W w':=by
 obtain⟨hT,eP⟩:=h.task id t ht;have c4:=hT.state;by_cases aG:t.state=2
 · obtain⟨NA,eB⟩:=hi aG;have am:zn s id t i=setTk (zN s i (zh s.cores[i]! t.id).2.2) id (wi t (zh s.cores[i]! t.id).1):=by unfold zn;rw[if_pos aG]
   rw[am];obtain⟨g,c,aQ⟩:=h.form (by omega);have lO:=h.core i eB;have og:=hf i (by rw[<- h.num];exact eB);obtain⟨b,hb⟩:∃b,tb id=b:=⟨_,rfl⟩
   obtain⟨cb,mu⟩:∃cb,cbs[i]! = cb:=⟨_,rfl⟩
   rw[hb] at c4⊢;rw[mu] at lO;have iI:∀W',W'.heap=W.heap->Calls Tryz.prog 151 #[.pointer (some ⟨cb,0,none⟩),I t.id] W' (kG cb (fun k=>own k=some (.core i)) (zh s.cores[i]! t.id) W'):=fun W' m8=>
    ZY cb _ s.cores[i]! t.id W' (lO.same (by rw[m8];exact Nat.le_refl _) (fun k _=>by rw[m8])) og
   obtain⟨r,hr⟩:∃r,zh s.cores[i]! t.id=r:=⟨_,rfl⟩
   rw[hr] at iI⊢;obtain⟨m,hm⟩:∃m,cbs.length=m:=⟨_,rfl⟩
   have DV:(i:Int)<(m:Int):=by omega
   have sf:0<=(i:Int):=by omega
   have k1:W.cell? ⟨sb,0,none⟩=some (.slice (some ⟨g,0,none⟩) m c):=h.head.trans (by rw[aQ,hm])
   have k2:W.cell? ⟨g,i,none⟩=some (.pointer (some ⟨cb,0,none⟩)):=by
    have Bx:=aQ;subst Bx;rw[<- mu];exact h.coreCell i eB
   have k3:W.cell? ⟨b,0,none⟩=some (I t.id):=by rw[<- hb];exact hT.id
   have k4:W.cell? ⟨b,3,none⟩=some (I i):=by rw[<- hb,<- NA];exact hT.core
   have hg:own g=some .row:=h.rown g (by rw[aQ];rfl);have HE:Hid (∀W':World,(∀j,own j≠some (.core i)->j<W.heap.size->W'.heap[j]? = W.heap[j]?) ->
    (W'.cell? ⟨sb,0,none⟩=some (.slice (some ⟨g,0,none⟩) m c)/\W'.cell? ⟨g,i,none⟩=some (.pointer (some ⟨cb,0,none⟩)))/\W'.cell? ⟨b,0,none⟩=some (I t.id)/\W'.cell? ⟨b,3,none⟩=some (I i)):=lH (fun W' m8=>by
    have e:∀j x,own j=some x->x≠.core i->W'.heap[j]? = W.heap[j]?:=fun j x hj hx=>m8 j (by rw[hj];simpa using hx) (h.lt j (by rw[hj];simp));have e1:=e sb _ h.osb (by simp);have e2:=e g _ hg (by simp);have e3:=e b _ (by rw[<- hb];exact eP) (by simp);exact⟨⟨(World.cell?_of_block (a:=⟨sb,0,none⟩) e1).trans k1,(World.cell?_of_block (a:=⟨g,i,none⟩) e2).trans k2⟩,(World.cell?_of_block (a:=⟨b,0,none⟩) e3).trans k3,(World.cell?_of_block (a:=⟨b,3,none⟩) e3).trans k4⟩)
   have OH:Hid (sb≠b/\g≠b):=lH ⟨(fun e=>by have a:=h.osb;rw[e,<- hb,eP] at a;cases a),(fun e=>by have a:=hg;rw[e,<- hb,eP] at a;cases a)⟩;have Rn:Hid (∀W':World,(∀j,own j≠some (.core i)->j<W.heap.size->W'.heap[j]? = W.heap[j]?)->W'.cell? ⟨b,6,none⟩=some (I t.lag)/\W'.frozen? ⟨b,6,none⟩=false):=lH (fun W' m8=>by
    have e3:W'.heap[b]? = W.heap[b]?:=m8 b (by rw[<- hb,eP];simp) (h.lt b (by rw[<- hb,eP];simp));exact⟨(World.cell?_of_block (a:=⟨b,6,none⟩) e3).trans (by rw[<- hb];exact hT.lag),(World.frozen?_of_block (a:=⟨b,6,none⟩) e3).trans (by rw[<- hb];exact hT.live 6)⟩)
   have HS:=lH h;have HT:=lH ht;have HB:=lH hb;have rB:=lH mu;have HM:=lH hm;have oa:=lH eB;have pN:=lH eP;have p8:(t.state==2)=true:=by simp[aG]
   rw[aG] at c4;clear h ht hi hf hT eP aQ lO og hb mu hr hm eB hg am aG NA;go_enter Tryz.func105,Tryz.ntmps105;go_wp2_with fail
   go_region_held3 (fun W2=>(W2.cell? ⟨sb,0,none⟩=some (.slice (some ⟨g,0,none⟩) m c)/\W2.cell? ⟨g,i,none⟩=some (.pointer (some ⟨cb,0,none⟩)))/\W2.cell? ⟨b,0,none⟩=some (I t.id)/\W2.cell? ⟨b,3,none⟩=some (I i)) (first | exact⟨⟨k1,k2⟩,k3,k4⟩ | exact AU | exact Hl) (first | (go_at_call 151;refine(iI W.drew rfl).mono ?_;rintro e w9 ⟨rfl,AT⟩;have AU:=HE.out w9 (fun j hj iK=>AT.2.block j iK hj);obtain⟨c6,f6⟩:=Rn.out w9 (fun j hj iK=>AT.2.block j iK hj);have Hl:=J3 AU OH.out.1 OH.out.2 (I r.1)) | fail)
   obtain⟨c1,c2⟩:=AT;have tP:Touch (fun k=>own k=some (.core i)) W w9:=((Touch.refl _ W).drew).self c2;have eo:=HS.out.setCore0 (i:=i) oa.out (by rw[rB.out];exact c1) tP;have ms:Hid (SysAt w9 sb gb nb pb mb n cv D cbs tb own (zN s i r.2.2)):=lH eo;have AS:=lH tP;have iE:=ms.out.task id t HT.out;have od:=lH iE;clear AU Hl c1 c2 tP eo k1 k2 k3 k4 c6 f6 iE iI c4;go_end0
   have DJ:=od.out;rw[HB.out] at DJ;refine⟨rfl,ms.out.setTask HT.out (by rw[HB.out];exact DJ.1.setLag _) (by rw[HB.out];exact zG _ _ _ _),?_⟩;have e1:Touch (fun k=>own k≠none) W w9:=AS.out.wider (fun k hk=>by rw[hk];simp);exact e1.self ((zG w9 b 6 (I r.1)).wider (fun k hk=>by rw[hk,<- HB.out,pN.out];simp))
 · have am:zn s id t i=s:=by unfold zn;rw[if_neg aG]
   rw[am];have HS:=lH h;clear h ht hi hf hT eP am;go_enter Tryz.func105,Tryz.ntmps105;go_wp2_with fail
   go_end0
   exact⟨rfl,HS.out,Touch.refl _ _⟩
theorem k9 (sb gb nb pb mb n:Nat) (cv:Value) (D:DataW Unit) (cbs:List Nat) (tb:Int->Nat) (own:Nat->Option Own) (s:Sy) (id:Int) (t:Tk) (i:Nat) (W:World) (h:SysAt W sb gb nb pb mb n cv D cbs tb own s)
 (ht:s.tasks id=some t) (hi:t.state=2->t.core=(i:Int)/\i<cbs.length) (hf:xT s) :
 Calls Tryz.prog 105 #[.pointer (some ⟨sb,0,none⟩),.pointer (some ⟨tb id,0,none⟩)] W fun e w'=>e=.returned (.tuple #[]) /\
  YP sb gb nb pb mb n cv D cbs tb own (zn s id t i) W w':=
 (X8 sb gb nb pb mb n cv D cbs tb own s id t i W h ht hi hf).mono (fun e w' h=>⟨h.1,own,h.2.1,fun _ _=>rfl,h.2.2⟩)
def wY (s:Sy) (id:Int) (i:Nat):Int×Sy:=
 match s.tasks id with
 | none=>(2,s)
 | some t=>if (nxt t.state 4).2=0 then(0,setTk (zn s id t i) id (stT (leaveT s t i) (nxt t.state 4).1)) else((nxt t.state 4).2,s)
theorem vZ (s:Sy) (id:Int) (t:Tk) (i:Nat) (ht:s.tasks id=some t):(zn s id t i).tasks id=some (leaveT s t i):=by
 unfold zn leaveT;by_cases h:t.state=2
 · rw[if_pos h,if_pos h];simp[setTk]
 · rw[if_neg h,if_neg h];exact ht
theorem kU (s:Sy) (t:Tk) (i:Nat):(leaveT s t i).state=t.state:=by
 unfold leaveT;split <;> rfl
theorem Vm (sb gb nb pb mb n:Nat) (cv:Value) (D:DataW Unit) (cbs:List Nat) (tb:Int->Nat) (own:Nat->Option Own) (s:Sy) (id:Int) (i:Nat) (W:World) (h:SysAt W sb gb nb pb mb n cv D cbs tb own s)
 (h1:-9223372036854775808<=id) (h2:id<=9223372036854775807) (hi:∀t,s.tasks id=some t->t.state=2->t.core=(i:Int)/\i<cbs.length) (hf:xT s) :
 Calls Tryz.prog 49 #[.pointer (some ⟨sb,0,none⟩),I id] W fun e w'=>e=.returned (I (wY s id i).1)/\YP sb gb nb pb mb n cv D cbs tb own (wY s id i).2 W w':=by
 cases ht:s.tasks id with
 | none=>
  have ai:=qz sb gb nb pb mb n cv D cbs tb own s id 4 W h h1 h2 ht;have hr:wY s id i=(2,s):=by unfold wY;rw[ht]
  rw[hr];have HS:=lH h;clear h ht hi hf hr;go_enter Tryz.func49,Tryz.ntmps49;go_wp2_with fail
  refine ai.mono ?_;rintro e w' ⟨rfl,rfl⟩;clear ai;go_wp2_with fail
  go_ret
  exact⟨rfl,own,HS.out,fun _ _=>rfl,Touch.refl _ _⟩
 | some t=>
  have ai:=wP sb gb nb pb mb n cv D cbs tb own s id 4 t W h h1 h2 ht;by_cases he:(nxt t.state 4).2=0
  · have hr:wY s id i=(0,setTk (zn s id t i) id (stT (leaveT s t i) (nxt t.state 4).1)):=by unfold wY;rw[ht];simp only;rw[if_pos he]
    rw[hr];rw[he] at ai;have ma:=k9 sb gb nb pb mb n cv D cbs tb own s id t i W h ht (hi t ht) hf;have HL:=lH (vZ s id t i ht);have pN:=lH (h.task id t ht).2;have io:=lH (kU s t i);have RA:=lH ((h.lt (tb id) (by rw[(h.task id t ht).2];simp)));obtain⟨b,hb⟩:∃b,tb id=b:=⟨_,rfl⟩
    rw[hb] at ai ma;have HB:=lH hb;clear h ht hi hf hr he hb;go_enter Tryz.func49,Tryz.ntmps49;go_wp2_with fail
    refine ai.mono ?_;rintro e w1 ⟨rfl,rfl⟩;clear ai;go_wp2_with fail
    refine ma.mono ?_;rintro e w2 ⟨rfl,own',iA,pY,nI⟩;have aC:=iA.task id _ HL.out;rw[HB.out] at aC;have Cl:=vB b _ 4 w2 aC.1;rw[io.out] at Cl;have iy:=lH iA;have Cd:=lH pY;have eR:=lH nI;have od:=lH aC;clear iA pY nI aC ma;go_wp2_with fail
    refine Cl.mono ?_;rintro e w3 ⟨rfl,rfl⟩;clear Cl;go_wp2_with fail
    go_ret
    refine⟨rfl,own',iy.out.setTask HL.out (by rw[HB.out];exact od.out.1.setState _) (by rw[HB.out];exact zG _ _ _ _),Cd.out,?_⟩;exact eR.out.self ((zG w2 b 4 _).wider (fun k hk=>by rw[hk,<- HB.out,pN.out];simp))
  · have hr:wY s id i=((nxt t.state 4).2,s):=by unfold wY;rw[ht];simp only;rw[if_neg he]
    rw[hr];have HS:=lH h;generalize(nxt t.state 4).2=er at ai he⊢;generalize tb id=b at ai;clear h ht hi hf hr;go_enter Tryz.func49,Tryz.ntmps49;go_wp2_with fail
    refine ai.mono ?_;rintro e w1 ⟨rfl,rfl⟩;clear ai;go_wp2_with fail
    go_ret
    exact⟨rfl,own,HS.out,fun _ _=>rfl,Touch.refl _ _⟩
def wTk (t:Tk) (w:Int):Tk:=⟨t.id,w,t.group,t.core,t.state,t.mask,t.lag⟩
theorem TaskAt.setW {W:World} {b:Nat} {t:Tk} (h:TaskAt W b t) (x:Int):TaskAt (W.setCell ⟨b,1,none⟩ (I x)) b (wTk t x):=by
 refine⟨?_,World.cell?_setCell_same _ _ _ h.w,?_,?_,?_,?_,?_,fun i=>(World.frozen?_setCell _ _ _ _).trans (h.live i)⟩
 · rw[za _ (by simp)];exact h.id
 · rw[za _ (by simp)];exact h.group
 · rw[za _ (by simp)];exact h.core
 · rw[za _ (by simp)];exact h.state
 · rw[za _ (by simp)];exact h.mask
 · rw[za _ (by simp)];exact h.lag
theorem Xk (sb gb nb pb mb n:Nat) (cv:Value) (D:DataW Unit) (cbs:List Nat) (tb:Int->Nat) (own:Nat->Option Own) (s:Sy) (id w:Int) (W:World) (h:SysAt W sb gb nb pb mb n cv D cbs tb own s)
 (h1:-9223372036854775808<=id) (h2:id<=9223372036854775807) (ht:s.tasks id=none) :
 Calls Tryz.prog 52 #[.pointer (some ⟨sb,0,none⟩),I id,I w] W fun e w'=>e=.returned (I 2)/\W=w':=by
 have hl:=h.look id h1 h2;rw[ht] at hl;simp only at hl;have c67:=h.c67;clear h ht;go_enter Tryz.func52,Tryz.ntmps52;go_wp2_with fail
 go_ret
 exact⟨rfl,rfl⟩
theorem V7 (sb gb nb pb mb n:Nat) (cv:Value) (D:DataW Unit) (cbs:List Nat) (tb:Int->Nat) (own:Nat->Option Own) (s:Sy) (id w:Int) (t:Tk) (W:World) (h:SysAt W sb gb nb pb mb n cv D cbs tb own s)
 (h1:-9223372036854775808<=id) (h2:id<=9223372036854775807) (ht:s.tasks id=some t) (hw:zQ w=false) :
 Calls Tryz.prog 52 #[.pointer (some ⟨sb,0,none⟩),I id,I w] W fun e w'=>e=.returned (I 1)/\W=w':=by
 have hl:=h.look id h1 h2;rw[ht] at hl;simp only at hl;have c67:=h.c67;have eH:=xo w W;rw[hw] at eH;generalize tb id=b at hl;clear h ht hw;go_enter Tryz.func52,Tryz.ntmps52;go_wp2_with fail
 refine eH.mono ?_;rintro e w' ⟨rfl,rfl⟩;go_wp2_with fail
 go_ret
 exact⟨rfl,rfl⟩
theorem V8 (sb gb nb pb mb n:Nat) (cv:Value) (D:DataW Unit) (cbs:List Nat) (tb:Int->Nat) (own:Nat->Option Own) (s:Sy) (id w:Int) (t:Tk) (W:World) (h:SysAt W sb gb nb pb mb n cv D cbs tb own s)
 (h1:-9223372036854775808<=id) (h2:id<=9223372036854775807) (ht:s.tasks id=some t) (hw:zQ w=true) (h5:t.state≠2) :
 Calls Tryz.prog 52 #[.pointer (some ⟨sb,0,none⟩),I id,I w] W fun e w'=>e=.returned (I 0)/\YP sb gb nb pb mb n cv D cbs tb own (setTk s id (wTk t w)) W w':=by
 have hl:=h.look id h1 h2;rw[ht] at hl;simp only at hl;have c67:=h.c67;obtain⟨hT,al⟩:=h.task id t ht;have q1:=hT.w;have f1:=hT.live 1;have q4:=hT.state;have eH:=xo w W;rw[hw] at eH;have he:(t.state==2)=false:=by simpa using h5
 have HS:=lH h;have HT:=lH ht;have od:=lH hT;have HO:=lH al;obtain⟨b,hb⟩:∃b,tb id=b:=⟨_,rfl⟩
 rw[hb] at hl q1 f1 q4;have HB:=lH hb;clear h ht hT h5 al hb hw;go_enter Tryz.func52,Tryz.ntmps52;go_wp2_with fail
 refine eH.mono ?_;rintro e w' ⟨rfl,rfl⟩;go_wp2_with fail
 go_ret
 exact⟨rfl,own,HS.out.setTask HT.out (by rw[HB.out];have:=od.out;rw[HB.out] at this;exact this.setW w) (by rw[HB.out];exact zG _ _ _ _),fun _ _=>rfl,(zG _ _ _ _).wider (fun k hk=>by rw[hk,<- HB.out,HO.out];simp)⟩
theorem QI (sb gb nb pb mb n:Nat) (cv:Value) (D:DataW Unit) (cbs:List Nat) (tb:Int->Nat) (own:Nat->Option Own) (s:Sy) (id w:Int) (t:Tk) (i:Nat) (W:World) (h:SysAt W sb gb nb pb mb n cv D cbs tb own s)
 (h1:-9223372036854775808<=id) (h2:id<=9223372036854775807) (ht:s.tasks id=some t) (hw:zQ w=true) (h5:t.state=2) (hi:t.core=(i:Int)) (eB:i<cbs.length) (hf:xT s) (hr:(yA s.cores[i]! id w).1=0) :
 Calls Tryz.prog 52 #[.pointer (some ⟨sb,0,none⟩),I id,I w] W fun e w'=>e=.returned (I 0)/\YP sb gb nb pb mb n cv D cbs tb own (setTk (zN s i (yA s.cores[i]! id w).2) id (wTk t w)) W w':=by
 have hl:=h.look id h1 h2;rw[ht] at hl;simp only at hl;have c67:=h.c67;obtain⟨hT,al⟩:=h.task id t ht;have q4:=hT.state;rw[h5] at q4;have eH:=xo w W;rw[hw] at eH;obtain⟨g,c,aQ⟩:=h.form (by omega);have lO:=h.core i eB;have og:=hf i (by rw[<- h.num];exact eB);obtain⟨b,hb⟩:∃b,tb id=b:=⟨_,rfl⟩
 obtain⟨cb,mu⟩:∃cb,cbs[i]! = cb:=⟨_,rfl⟩
 rw[hb] at hl q4;rw[mu] at lO;have r9:∀W',W'.heap=W.heap->Calls Tryz.prog 108 #[.pointer (some ⟨cb,0,none⟩),I id,I w] W' (xC cb (fun k=>own k=some (.core i)) (yA s.cores[i]! id w) W'):=fun W' m8=>
  Ye cb _ s.cores[i]! id w W' (lO.same (by rw[m8];exact Nat.le_refl _) (fun k _=>by rw[m8])) og
 obtain⟨r,Df⟩:∃r,yA s.cores[i]! id w=r:=⟨_,rfl⟩
 rw[Df] at r9 hr⊢;obtain⟨m,hm⟩:∃m,cbs.length=m:=⟨_,rfl⟩
 have DV:(i:Int)<(m:Int):=by omega
 have sf:0<=(i:Int):=by omega
 have k1:W.cell? ⟨sb,0,none⟩=some (.slice (some ⟨g,0,none⟩) m c):=h.head.trans (by rw[aQ,hm])
 have k2:W.cell? ⟨g,i,none⟩=some (.pointer (some ⟨cb,0,none⟩)):=by
  have Bx:=aQ;subst Bx;rw[<- mu];exact h.coreCell i eB
 have k3:W.cell? ⟨b,3,none⟩=some (I i):=by rw[<- hb,<- hi];exact hT.core
 have hg:own g=some .row:=h.rown g (by rw[aQ];rfl);have HE:Hid (∀W':World,(∀x,own x≠some (.core i)->x<W.heap.size->W'.heap[x]? = W.heap[x]?) ->
  (W'.cell? ⟨sb,0,none⟩=some (.slice (some ⟨g,0,none⟩) m c)/\W'.cell? ⟨g,i,none⟩=some (.pointer (some ⟨cb,0,none⟩)))/\W'.cell? ⟨b,3,none⟩=some (I i)):=lH (fun W' m8=>by
  have e:∀y x,own y=some x->x≠.core i->W'.heap[y]? = W.heap[y]?:=fun y x hy hx=>m8 y (by rw[hy];simpa using hx) (h.lt y (by rw[hy];simp));have e1:=e sb _ h.osb (by simp);have e2:=e g _ hg (by simp);have e3:=e b _ (by rw[<- hb];exact al) (by simp);exact⟨⟨(World.cell?_of_block (a:=⟨sb,0,none⟩) e1).trans k1,(World.cell?_of_block (a:=⟨g,i,none⟩) e2).trans k2⟩,(World.cell?_of_block (a:=⟨b,3,none⟩) e3).trans k3⟩)
 have HS:=lH h;have HT:=lH ht;have HB:=lH hb;have rB:=lH mu;have oa:=lH eB;have pN:=lH al;have HR:=lH hr;clear h ht hT hw h5 al hb hi eB hf lO og mu hm hg aQ hr Df;go_enter Tryz.func52,Tryz.ntmps52;go_wp2_with fail
 refine eH.mono ?_;rintro e w' ⟨rfl,rfl⟩;go_wp2_with fail
 go_region_held3 (fun W2=>(W2.cell? ⟨sb,0,none⟩=some (.slice (some ⟨g,0,none⟩) m c)/\W2.cell? ⟨g,i,none⟩=some (.pointer (some ⟨cb,0,none⟩)))/\W2.cell? ⟨b,3,none⟩=some (I i)) (first | exact⟨⟨k1,k2⟩,k3⟩ | exact AU) (first | (go_at_call 108;refine(r9 W.drew rfl).mono ?_;rintro e w9 ⟨rfl,AT⟩;have AU:=HE.out w9 (fun j hj iK=>AT.choose_spec.2.1.block j iK hj)) | fail)
 obtain⟨F',c1,c2,c3⟩:=AT;have tP:Touch (fun k=>own k=some (.core i)) W w9:=((Touch.refl _ W).drew).self c2;obtain⟨own',eo,Ec⟩:=HS.out.setCore (i:=i) oa.out (by rw[rB.out];exact c1) tP (fun k hk=>c3 k hk);have ms:Hid (SysAt w9 sb gb nb pb mb n cv D cbs tb own' (zN s i r.2)):=lH eo;have Ge:=lH Ec;have AS:=lH tP;have iE:=ms.out.task id t HT.out;have od:=lH iE;rw[HB.out] at iE;have f1:=iE.1.live 1;have q1:=iE.1.w;have Ef:=HR.out;clear AU c1 c2 c3 tP eo Ec k1 k2 k3 iE r9;obtain⟨r1,rc⟩:=r;simp only at Ef;subst Ef;simp only at ms⊢;go_wp2_with fail
 go_ret
 have DJ:=od.out;rw[HB.out] at DJ;refine⟨rfl,own',ms.out.setTask HT.out (by rw[HB.out];exact DJ.1.setW _) (by rw[HB.out];exact zG _ _ _ _),Ge.out,?_⟩;have e1:Touch (fun k=>own k≠none) W w9:=AS.out.wider (fun k hk=>by rw[hk];simp);exact e1.self ((zG w9 b 1 (I w)).wider (fun k hk=>by rw[hk,<- HB.out,pN.out];simp))
end Go.Proofs.YtoiajjobecinpaaGreat
