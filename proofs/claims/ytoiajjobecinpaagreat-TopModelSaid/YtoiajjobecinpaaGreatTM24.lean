/- End: a task is gone. Spawn: whatever it is given. -/
import Derived.Test.YtoiajjobecinpaaGreatTM21
import Derived.Test.YtoiajjobecinpaaGreatTM22
set_option maxHeartbeats 4000000
set_option maxRecDepth 100000
namespace Go.Proofs.YtoiajjobecinpaaGreat
open Go.RowKit Go.Shelf Go.Lib Go.Proofs
set_option linter.unusedVariables false
set_option linter.unusedSimpArgs false
section
attribute [local go_sem] Oper.semAt_some
theorem SysAt.gone {W W3:World} {sb gb nb pb mb n:Nat} {cv:Value} {D:DataW Unit} {cbs:List Nat} {tb:Int->Nat} {own:Nat->Option Own} {s:Sy} {id:Int} {t:Tk} {ps':List (Int×Bool)}
 (h:SysAt W sb gb nb pb mb n cv D cbs tb own s) (ht:s.tasks id=some t) (hs:W.heap.size<=W3.heap.size) (hk:∀k,own k≠none->k≠mb->k≠pb->W3.heap[k]? = W.heap[k]?)
 (hm:W3.ownsMap Tryz.prog 3 fB mb n (D.del (.int .i64 id))) (hS:SlotsAt W3 nb pb ps') :
 SysAt W3 sb gb nb pb mb n cv (D.del (.int .i64 id)) cbs tb (fun k=>if k=tb id then none else own k) ⟨s.cores,s.gs,s.acc,ps',fun x=>if x=id then none else s.tasks x,s.cnt⟩:=by
 have hid:=(h.task id t ht).2;have tH:∀k x,own k=some x->x≠.places->x≠.map->W3.heap[k]? = W.heap[k]?:=fun k x hx h1 h2=>hk k (by rw[hx];simp) (fun e=>by subst e;rw[h.omb] at hx;exact h2 (by simpa using hx.symm)) (fun e=>by subst e;rw[h.opb] at hx;exact h1 (by simpa using hx.symm));have al:∀k x,own k=some x->x≠.task id->(if k=tb id then none else own k)=some x:=fun k x hx ay=>by
  rw[if_neg (fun e=>by rw[e,hid] at hx;exact ay (by simpa using hx.symm))];exact hx
 have bsb:=tH sb _ h.osb (by simp) (by simp);have h0:∀i,W3.cell? ⟨sb,i,none⟩=W.cell? ⟨sb,i,none⟩:=fun i=>World.cell?_of_block bsb;have oR:∀i,W3.frozen? ⟨sb,i,none⟩=W.frozen? ⟨sb,i,none⟩:=fun i=>World.frozen?_of_block bsb;have nF:∀k,(if k=tb id then none else own k)≠none->k<W3.heap.size:=fun k hk=>by
  split at hk
  · exact absurd rfl hk
  · have:=h.lt k hk;omega
 refine⟨(h0 _).trans h.head,(h0 _).trans h.c1,fun i hi=>?_,(h0 _).trans h.c66,(h0 _).trans h.c67,fun i=>(oR i).trans (h.live i),h.groups.same (tH gb _ h.ogb (by simp) (by simp)),hS,hm,h.cnt,fun x ia iU=>?_,fun x u hu=>?_,
  zb h.row (fun k eO=>tH k _ (h.rown k eO) (by simp) (by simp)),fun k eO=>al k _ (h.rown k eO) (by simp),h.num,fun i hi=>?_,al _ _ h.osb (by simp),al _ _ h.ogb (by simp),al _ _ h.onb (by simp),al _ _ h.opb (by simp),al _ _ h.omb (by simp),nF⟩
 · obtain⟨a1,a2,a3,a4⟩:=h.acc i hi;exact⟨(h0 _).trans a1,(h0 _).trans a2,(h0 _).trans a3,(h0 _).trans a4⟩
 · by_cases e:x=id
   · subst e;simp only[if_pos];rw[Maps.atKey_del_same]
   · simp only[if_neg e];rw[Maps.atKey_del_other (by intro c;simp only[Lit.int.injEq,true_and] at c;exact e c)];exact h.reads x ia iU
 · by_cases e:x=id
   · subst e;simp at hu
   · simp only[if_neg e] at hu⊢;obtain⟨t1,t2⟩:=h.task x u hu;exact⟨t1.same (tH _ _ t2 (by simp) (by simp)),al _ _ t2 (by simpa using e)⟩
 · refine((h.core i hi).same hs (fun k eO=>tH k _ eO (by simp) (by simp))).wider (fun k eO=>al k _ eO (by simp)) (fun k eO=>nF k (by rw[eO];simp))
def b8 (s:Sy) (id:Int) (t:Tk) (i:Nat):Sy:=
 ⟨(zn s id t i).cores,s.gs,s.acc,(uq s.ps id).2,fun x=>if x=id then none else(zn s id t i).tasks x,s.cnt⟩
theorem Uj (sb gb nb pb mb n:Nat) (cv:Value) (D:DataW Unit) (cbs:List Nat) (tb:Int->Nat) (own:Nat->Option Own) (s:Sy) (id:Int) (W:World) (h:SysAt W sb gb nb pb mb n cv D cbs tb own s)
 (h1:-9223372036854775808<=id) (h2:id<=9223372036854775807) (ht:s.tasks id=none) :
 Calls Tryz.prog 51 #[.pointer (some ⟨sb,0,none⟩),I id] W fun e w'=>e=.returned (I 2)/\W=w':=by
 have ai:=qz sb gb nb pb mb n cv D cbs tb own s id 8 W h h1 h2 ht;clear h ht;go_enter Tryz.func51,Tryz.ntmps51;go_wp2_with fail
 refine ai.mono ?_;rintro e w' ⟨rfl,rfl⟩;go_wp2_with fail
 go_ret
 exact⟨rfl,rfl⟩
theorem KY (sb:Nat) (cbs:List Nat) (own:Nat->Option Own) (s:Sy) (id:Int) (t:Tk) (i:Nat) (W:World) (h:∃gb nb pb mb n cv D tb,SysAt W sb gb nb pb mb n cv D cbs tb own s)
 (h1:-9223372036854775808<=id) (h2:id<=9223372036854775807) (ht:s.tasks id=some t) (he:(nxt t.state 8).2=0) (hi:t.state=2->t.core=(i:Int)/\i<cbs.length) (hf:xT s) (hz:xj s.ps) (hb:hasB s.ps id=true) :
 Calls Tryz.prog 51 #[.pointer (some ⟨sb,0,none⟩),I id] W fun e w'=>e=.returned (I 0)/\YQ sb cbs own (b8 s id t i) W w':=by
 obtain⟨gb,nb,pb,mb,n,cv,D,tb,h⟩:=h;have ai:=wP sb gb nb pb mb n cv D cbs tb own s id 8 t W h h1 h2 ht;rw[he] at ai;have ma:=k9 sb gb nb pb mb n cv D cbs tb own s id t i W h ht hi hf;have HL:=lH (vZ s id t i ht);have iV:(zn s id t i).ps=s.ps/\(zn s id t i).gs=s.gs/\(zn s id t i).acc=s.acc/\(zn s id t i).cnt=s.cnt:=by unfold zn;split <;> exact⟨rfl,rfl,rfl,rfl⟩
 have DR:b8 s id t i=⟨(zn s id t i).cores,(zn s id t i).gs,(zn s id t i).acc,(uq s.ps id).2,fun x=>if x=id then none else(zn s id t i).tasks x,(zn s id t i).cnt⟩:=by unfold b8;rw[iV.2.1,iV.2.2.1,iV.2.2.2]
 have Du:=lH iV.1;rw[DR];obtain⟨S1,eu⟩:∃x,zn s id t i=x:=⟨_,rfl⟩
 obtain⟨t1,ni⟩:∃x,leaveT s t i=x:=⟨_,rfl⟩
 rw[eu] at ma HL Du⊢;rw[ni] at HL;obtain⟨b,lk⟩:∃b,tb id=b:=⟨_,rfl⟩
 rw[lk] at ai ma;have lF:=lH lk;have HZ:=lH hz;have Me:=lH hb;have Cc:=lH (And.intro h1 h2);have io:=lH h.lt;clear h ht he hi hf hz hb iV DR eu ni lk;go_enter Tryz.func51,Tryz.ntmps51;go_wp2_with fail
 refine ai.mono ?_;rintro e w1 ⟨rfl,rfl⟩;clear ai;go_wp2_with fail
 refine ma.mono ?_;rintro e w2 ⟨rfl,own2,iA,pY,nI⟩;obtain⟨w3,CT,PH,BZ⟩:=iA.map.drop gY Tryz.underlying117 (key:=I id) (kl:=.int .i64 id) (U3 (x:=id) (by omega) (by omega)) 0;have JW:∀k,k≠mb->w3.heap[k]? = w2.heap[k]?:=fun k hk=>by
  obtain⟨es,clock,es',clock',ab,rfl⟩:=BZ;simp only[Go.ChangeMaps.setBlock,Array.getElem?_setIfInBounds];rw[if_neg (fun e=>hk e.symm)]
 have LU:w3.heap.size=w2.heap.size/\w3.os=w2.os/\w3.tape=w2.tape/\w3.output=w2.output:=by
  obtain⟨es,clock,es',clock',ab,rfl⟩:=BZ;exact⟨by simp[Go.ChangeMaps.setBlock],rfl,rfl,rfl⟩
 have nZ:sb≠mb:=fun e=>by have a:=iA.osb;rw[e,iA.omb] at a;cases a
 have LP:nb≠mb:=fun e=>by have a:=iA.onb;rw[e,iA.omb] at a;cases a
 have C8:pb≠mb:=fun e=>by have a:=iA.opb;rw[e,iA.omb] at a;cases a
 have BV:SlotsAt w3 nb pb s.ps:=by
  have:=iA.slots;rw[Du.out] at this;exact this.same (JW nb LP) (JW pb C8)
 have mj:=Vl nb pb id w3 s.ps HZ.out.1 BV Cc.out.2 HZ.out.2;rw[Me.out] at mj;simp only[if_pos] at mj;have c67:=iA.c67;have c66:w3.cell? ⟨sb,66,none⟩=some (.pointer (some ⟨nb,0,none⟩)):=(World.cell?_of_block (a:=⟨sb,66,none⟩) (JW sb nZ)).trans iA.c66;have iy:=lH iA;have Cd:=lH pY;have eR:=lH nI;have RB:=lH PH;have OQ:=lH JW;have rW:=lH LU;have MG:=lH BV;have G6:=lH C8;clear iA pY nI PH JW LU BV C8 LP nZ BZ ma;go_wp2_with fail
 refine mj.mono ?_;rintro e w4 ⟨rfl,rfl⟩;go_wp2_with fail
 go_ret
 have Fx:(id%64).toNat<s.ps.length:=by
  have:=Me.out;unfold hasB at this;simp only[Bool.and_eq_true,decide_eq_true_eq] at this;exact this.2.1
 have ng:(uq s.ps id).2=s.ps.set (id%64).toNat ((s.ps.getD (id%64).toNat default).1,false):=by unfold uq;rw[if_pos Me.out]
 have IT:nb≠pb:=fun e=>by have a:=iy.out.onb;rw[e,iy.out.opb] at a;cases a
 refine⟨rfl,_,⟨gb,nb,pb,mb,n,cv,_,tb,iy.out.gone HL.out ?_ ?_ ?_ ?_⟩,?_,?_⟩
 · simp[rW.out.1]
 · intro k hk h1 h2;rw[Below.heap_setCell _ _ _ _ h2,OQ.out k h1]
 · exact RB.out.setCell (by simpa using G6.out.symm) _
 · rw[ng];exact MG.out.free _ Fx
 · intro k hk;have eO:own2 k≠none:=by
    by_cases e:k=tb id
    · rw[if_pos e] at hk;exact absurd rfl hk
    · rw[if_neg e] at hk;exact hk
   by_cases hl:k<W.heap.size
   · rw[Cd.out k hl] at eO;exact .inl eO
   · exact .inr (by omega)
 · have et:=eR.out.size;refine⟨?_,?_,?_,by simp[rW.out.1];omega,fun k hk hn=>?_⟩
   · show w3.os=W.os;rw[rW.out.2.1,eR.out.os]
   · show w3.tape=W.tape;rw[rW.out.2.2.1,eR.out.tape]
   · show w3.output=W.output;rw[rW.out.2.2.2,eR.out.output]
   · have oo:own k=none:=by simpa using hn
     have e1:k≠mb:=fun e=>by have a:=iy.out.omb;rw[<- e,Cd.out k hk,oo] at a;cases a
     have e2:k≠pb:=fun e=>by have a:=iy.out.opb;rw[<- e,Cd.out k hk,oo] at a;cases a
     rw[Below.heap_setCell _ _ _ _ e2,OQ.out k e1,eR.out.block k hk hn]
theorem QZ (sb gb nb pb mb n:Nat) (cv:Value) (D:DataW Unit) (cbs:List Nat) (tb:Int->Nat) (own:Nat->Option Own) (s:Sy) (id:Int) (t:Tk) (W:World) (h:SysAt W sb gb nb pb mb n cv D cbs tb own s)
 (h1:-9223372036854775808<=id) (h2:id<=9223372036854775807) (ht:s.tasks id=some t) (he:¬(nxt t.state 8).2=0) :
 Calls Tryz.prog 51 #[.pointer (some ⟨sb,0,none⟩),I id] W fun e w'=>e=.returned (I (nxt t.state 8).2)/\W=w':=by
 have ai:=wP sb gb nb pb mb n cv D cbs tb own s id 8 t W h h1 h2 ht;generalize(nxt t.state 8).2=y at he ai⊢;clear h ht;go_enter Tryz.func51,Tryz.ntmps51;go_wp2_with fail
 refine ai.mono ?_;rintro e w' ⟨rfl,rfl⟩;go_wp2_with fail
 go_ret
 exact⟨rfl,rfl⟩
theorem cR (sb:Nat) (cbs:List Nat) (own:Nat->Option Own) (s:Sy) (w m g id:Int) (ps':List (Int×Bool)) (W:World) (h:∃gb nb pb mb n cv D tb,SysAt W sb gb nb pb mb n cv D cbs tb own s) (hw:zQ w=true) (pd:0<=m/\m<65536) (hm:ye m s.cores.length=true) (xs:List G16) (hL:zq s.gs g xs) (hx:xs≠[]) (mt:xs.length<=1000) (hz:xj s.ps) (ht:ym s.ps=(id,0,ps'))
 (hid:0<=id/\id<=9223372036854775807) (hn:s.tasks id=none) (nW:s.cnt<1000000) :
 Calls Tryz.prog 47 #[.pointer (some ⟨sb,0,none⟩),I w,.int .u16 m,I g] W
  (fun e w'=>e=.returned (.tuple #[I id,I 0])/\YQ sb cbs own ⟨s.cores,s.gs,s.acc,ps',fun x=>if x=id then some (ya id w m g) else s.tasks x,s.cnt+1⟩ W w'):=by
 obtain⟨gb,nb,pb,mb,n,cv,D,tb,hS⟩:=h;have lx:=xo w W;rw[hw] at lx;obtain⟨N,hN⟩:∃N,s.cores.length=N:=⟨_,rfl⟩
 obtain⟨a,c,aQ⟩:∃a c,cv=.slice a N c:=by
  have hl:cbs.length=N:=hS.num.trans hN;rcases hS.row.2 with⟨e,h0⟩ | ⟨g,cap,cur,e,_⟩
  · exact⟨none,0,by rw[e,show N=0 by omega]⟩
  · exact⟨_,cap,by rw[e,hl]⟩
 have c0:=hS.head;rw[aQ] at c0;have BF:=fun W'=>wS m s.cores.length pd W';rw[hm,hN] at BF;have c1:=hS.c1;have c66:=hS.c66;have c67:=hS.c67;have LV:=hS.lt sb (by rw[hS.osb];simp);have mh:=vx gb s.gs g xs W hS.groups hL mt;obtain⟨d,hd⟩:∃d,xs.length=d+1:=⟨xs.length-1,by have:xs.length≠0:=fun e=>hx (List.eq_nil_of_length_eq_zero e);omega⟩
 rw[hd] at mh;have SK:¬((d+1:Nat):Int)=0:=by omega
 have ed:=fun W' h'=>K0 nb pb W' s.ps h' hz id ps' ht;have HS:=lH hS;have HN:=lH hn;have L7:=lH nW;obtain⟨i1,i2⟩:=hid;clear hS hw pd hm hN hL hx mt hd hz ht hn nW aQ;go_enter Tryz.func47,Tryz.ntmps47;go_wp2_with fail
 refine lx.mono ?_;rintro e w0 ⟨rfl,rfl⟩;go_wp2_with fail
 refine(BF _).mono ?_;rintro e w0 ⟨rfl,rfl⟩;go_wp2_with fail
 refine mh.mono ?_;rintro e w1 ⟨rfl,ab⟩;have eu:=HS.out.below ab;have d66:=eu.c66;have JI:=eu.lt sb (by rw[eu.osb];simp);have FV:=ed w1 eu.slots;have ef:=lH ab;have iL:=lH eu;clear ab eu;go_wp2_with fail
 refine FV.mono ?_;rintro e w2 ⟨rfl,sG,nI⟩;have e67:w2.cell? ⟨sb,67,none⟩=some (.map (some mb)):=(World.cell?_of_block (a:=⟨sb,67,none⟩) (nI.block sb JI (fun e=>by have a:=iL.out.osb;rw[e,iL.out.opb] at a;cases a))).trans iL.out.c67;have IN:mb≠pb:=fun e=>by have a:=iL.out.omb;rw[e,iL.out.opb] at a;cases a
 have IK:=iL.out.lt mb (by rw[iL.out.omb];simp);have D7:=yc iL.out.map (nI.block mb IK IN);have Th:sb<w2.heap.size:=Nat.lt_of_lt_of_le JI nI.size;have D8:=D7.alloc (.cells #[I id,I w,I g,I (-1),I 1,.int .u16 m,I 0] 60);obtain⟨w3,Od,m5,m6⟩:=D8.update (t:=117) (e:=188) gY Tryz.underlying117 (by have:=iL.out.cnt;have:=L7.out;unfold maxLen;omega) (U3 (x:=id) (by omega) (by omega)) (Qh w2.heap.size);obtain⟨own',tb',h1,h2,h3⟩:=iL.out.spawn sG nI ((Below.refl _ w2).alloc (Nat.le_refl _) _) (Xg w2 id w m g) (by simp) m5 m6 HN.out;have H1:=lH h1;have H2:=lH h2;have H3:=lH h3;clear sG nI IN IK D7 D8 m5 m6 h1 h2 h3;go_wp2_with fail
 go_ret2
 refine⟨rfl,own',⟨gb,nb,pb,mb,_,cv,_,tb',H1.out⟩,fun k hk=>?_,(Touch.of_below ef.out).self H3.out⟩;rcases H2.out k hk with h | h
 · exact .inl h
 · have:=ef.out.size;exact .inr (by omega)
theorem Xf {ps:List (Int×Bool)} (h:(ym ps).2.1≠0):ym ps=(0,3,ps)/\∀j,j<ps.length->(ps.getD j default).2=true:=by
 unfold ym at h⊢;cases hf:ps.findIdx? (fun p=>!p.2) with
 | some i=>rw[hf] at h;simp at h
 | none=>
  refine⟨rfl,fun j hj=>?_⟩;have:=List.findIdx?_eq_none_iff.1 hf (ps.getD j default) (by rw[List.getD_eq_getElem?_getD,List.getElem?_eq_getElem hj];exact List.getElem_mem hj);simpa using this
theorem Vo (sb:Nat) (cbs:List Nat) (own:Nat->Option Own) (s:Sy) (w m g:Int) (W:World) (h:∃gb nb pb mb n cv D tb,SysAt W sb gb nb pb mb n cv D cbs tb own s) (hw:zQ w=false) :
 Calls Tryz.prog 47 #[.pointer (some ⟨sb,0,none⟩),I w,.int .u16 m,I g] W
  (fun e w'=>e=.returned (.tuple #[I 0,I 1])/\YQ sb cbs own s W w'):=by
 obtain⟨gb,nb,pb,mb,n,cv,D,tb,hS⟩:=h;have lx:=xo w W;rw[hw] at lx;have HS:=lH hS;clear hS hw;go_enter Tryz.func47,Tryz.ntmps47;go_wp2_with fail
 refine lx.mono ?_;rintro e w0 ⟨rfl,rfl⟩;go_wp2_with fail
 go_ret2
 exact⟨rfl,YQ.below HS.out (Below.refl _ _)⟩
theorem YY (sb:Nat) (cbs:List Nat) (own:Nat->Option Own) (s:Sy) (w m g:Int) (W:World) (h:∃gb nb pb mb n cv D tb,SysAt W sb gb nb pb mb n cv D cbs tb own s) (hw:zQ w=true) (pd:0<=m/\m<65536) (hm:ye m s.cores.length=false) :
 Calls Tryz.prog 47 #[.pointer (some ⟨sb,0,none⟩),I w,.int .u16 m,I g] W
  (fun e w'=>e=.returned (.tuple #[I 0,I 5])/\YQ sb cbs own s W w'):=by
 obtain⟨gb,nb,pb,mb,n,cv,D,tb,hS⟩:=h;have lx:=xo w W;rw[hw] at lx;obtain⟨N,hN⟩:∃N,s.cores.length=N:=⟨_,rfl⟩
 obtain⟨a,c,aQ⟩:∃a c,cv=.slice a N c:=by
  have hl:cbs.length=N:=hS.num.trans hN;rcases hS.row.2 with⟨e,h0⟩ | ⟨g,cap,cur,e,_⟩
  · exact⟨none,0,by rw[e,show N=0 by omega]⟩
  · exact⟨_,cap,by rw[e,hl]⟩
 have c0:=hS.head;rw[aQ] at c0;have BF:=fun W'=>wS m s.cores.length pd W';rw[hm,hN] at BF;have HS:=lH hS;clear hS hw pd hm hN aQ;go_enter Tryz.func47,Tryz.ntmps47;go_wp2_with fail
 refine lx.mono ?_;rintro e w0 ⟨rfl,rfl⟩;go_wp2_with fail
 refine(BF _).mono ?_;rintro e w0 ⟨rfl,rfl⟩;go_wp2_with fail
 go_ret2
 exact⟨rfl,YQ.below HS.out (Below.refl _ _)⟩
theorem Z0 (sb:Nat) (cbs:List Nat) (own:Nat->Option Own) (s:Sy) (w m g:Int) (W:World) (h:∃gb nb pb mb n cv D tb,SysAt W sb gb nb pb mb n cv D cbs tb own s) (hw:zQ w=true) (pd:0<=m/\m<65536) (hm:ye m s.cores.length=true) (hL:zq s.gs g []) :
 Calls Tryz.prog 47 #[.pointer (some ⟨sb,0,none⟩),I w,.int .u16 m,I g] W
  (fun e w'=>e=.returned (.tuple #[I 0,I 2])/\YQ sb cbs own s W w'):=by
 obtain⟨gb,nb,pb,mb,n,cv,D,tb,hS⟩:=h;have lx:=xo w W;rw[hw] at lx;obtain⟨N,hN⟩:∃N,s.cores.length=N:=⟨_,rfl⟩
 obtain⟨a,c,aQ⟩:∃a c,cv=.slice a N c:=by
  have hl:cbs.length=N:=hS.num.trans hN;rcases hS.row.2 with⟨e,h0⟩ | ⟨g,cap,cur,e,_⟩
  · exact⟨none,0,by rw[e,show N=0 by omega]⟩
  · exact⟨_,cap,by rw[e,hl]⟩
 have c0:=hS.head;rw[aQ] at c0;have BF:=fun W'=>wS m s.cores.length pd W';rw[hm,hN] at BF;have c1:=hS.c1;have mh:=vx gb s.gs g [] W hS.groups hL (by simp);rw[List.length_nil] at mh;have HS:=lH hS;clear hS hw pd hm hN aQ hL;go_enter Tryz.func47,Tryz.ntmps47;go_wp2_with fail
 refine lx.mono ?_;rintro e w0 ⟨rfl,rfl⟩;go_wp2_with fail
 refine(BF _).mono ?_;rintro e w0 ⟨rfl,rfl⟩;go_wp2_with fail
 refine mh.mono ?_;rintro e w1 ⟨rfl,ab⟩;have ef:=lH ab;clear ab;go_wp2_with fail
 go_ret2
 exact⟨rfl,YQ.below HS.out ef.out⟩
theorem YX (sb:Nat) (cbs:List Nat) (own:Nat->Option Own) (s:Sy) (w m g:Int) (W:World) (h:∃gb nb pb mb n cv D tb,SysAt W sb gb nb pb mb n cv D cbs tb own s) (hw:zQ w=true) (pd:0<=m/\m<65536) (hm:ye m s.cores.length=true) (xs:List G16) (hL:zq s.gs g xs) (hx:xs≠[]) (mt:xs.length<=1000)
 (hz:xj s.ps) (ht:(ym s.ps).2.1≠0) :
 Calls Tryz.prog 47 #[.pointer (some ⟨sb,0,none⟩),I w,.int .u16 m,I g] W
  (fun e w'=>e=.returned (.tuple #[I 0,I 3])/\YQ sb cbs own s W w'):=by
 obtain⟨gb,nb,pb,mb,n,cv,D,tb,hS⟩:=h;have lx:=xo w W;rw[hw] at lx;obtain⟨N,hN⟩:∃N,s.cores.length=N:=⟨_,rfl⟩
 obtain⟨a,c,aQ⟩:∃a c,cv=.slice a N c:=by
  have hl:cbs.length=N:=hS.num.trans hN;rcases hS.row.2 with⟨e,h0⟩ | ⟨g,cap,cur,e,_⟩
  · exact⟨none,0,by rw[e,show N=0 by omega]⟩
  · exact⟨_,cap,by rw[e,hl]⟩
 have c0:=hS.head;rw[aQ] at c0;have BF:=fun W'=>wS m s.cores.length pd W';rw[hm,hN] at BF;have c1:=hS.c1;have mh:=vx gb s.gs g xs W hS.groups hL mt;obtain⟨d,hd⟩:∃d,xs.length=d+1:=⟨xs.length-1,by have:xs.length≠0:=fun e=>hx (List.eq_nil_of_length_eq_zero e);omega⟩
 rw[hd] at mh;have SK:¬((d+1:Nat):Int)=0:=by omega
 have aM:=(Xf ht).2;have HS:=lH hS;have sY:=lH aM;have HZ:=lH hz;clear hS hw pd hm hN aQ hL hx mt hd aM hz ht;go_enter Tryz.func47,Tryz.ntmps47;go_wp2_with fail
 refine lx.mono ?_;rintro e w0 ⟨rfl,rfl⟩;go_wp2_with fail
 refine(BF _).mono ?_;rintro e w0 ⟨rfl,rfl⟩;go_wp2_with fail
 refine mh.mono ?_;rintro e w1 ⟨rfl,ab⟩;have eu:=HS.out.below ab;have d66:=eu.c66;have IL:=Xb nb pb w1 s.ps HZ.out.1 eu.slots sY.out;have ef:=lH ab;clear eu ab;go_wp2_with fail
 refine IL.mono ?_;rintro e w2 ⟨rfl,rfl⟩;go_wp2_with fail
 go_ret2
 exact⟨rfl,YQ.below HS.out ef.out⟩
end
end Go.Proofs.YtoiajjobecinpaaGreat
