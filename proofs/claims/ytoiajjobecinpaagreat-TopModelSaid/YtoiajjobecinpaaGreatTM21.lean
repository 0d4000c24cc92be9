/- What a world does with an act: the state behind it. Group: a new group, with its account. Tick: the  -/
import Derived.Test.YtoiajjobecinpaaGreatTM18
import Derived.Test.YtoiajjobecinpaaGreatTM19
set_option maxHeartbeats 4000000
set_option maxRecDepth 100000
namespace Go.Proofs.YtoiajjobecinpaaGreat
open Go.RowKit Go.Shelf Go.Lib Go.Proofs
set_option linter.unusedVariables false
set_option linter.unusedSimpArgs false
section
attribute [local go_sem] Oper.semAt_some
def YQ (sb:Nat) (cbs:List Nat) (own:Nat->Option Own) (s':Sy) (W w':World):Prop:=
 ∃own',(∃gb nb pb mb n cv D tb,SysAt w' sb gb nb pb mb n cv D cbs tb own' s')/\(∀k,own' k≠none->own k≠none\/W.heap.size<=k)/\Touch (fun k=>own k≠none) W w'
theorem YP.q {sb gb nb pb mb n:Nat} {cv:Value} {D:DataW Unit} {cbs:List Nat} {tb:Int->Nat} {own:Nat->Option Own} {s':Sy} {W w':World} (h:YP sb gb nb pb mb n cv D cbs tb own s' W w'):YQ sb cbs own s' W w':=by
 obtain⟨own',h1,h2,h3⟩:=h;refine⟨own',⟨gb,nb,pb,mb,n,cv,D,tb,h1⟩,fun k hk=>?_,h3⟩;by_cases hl:k<W.heap.size
 · rw[h2 k hl] at hk;exact .inl hk
 · exact .inr (by omega)
theorem KX {W W2 w1 w':World} {ob wb sb:Nat} {s s':Sy} {m:Nat} {cbs:List Nat} {L:Int->Option Tr} {own:Nat->Option Own} {ow:Nat->Option OwnW} (h:kK W ob wb sb s m cbs L own ow) (hB:Below W.heap.size W W2) (hY:YQ sb cbs own s' W2 w1)
 (hT:Touch (fun k=>k=W.heap.size+1) w1 w') (hz:W.heap.size+1<W2.heap.size) :
 ∃own',kK w' ob wb sb s' m cbs L own' ow/\Touch (fun k=>own k≠none) W w'/\∀k,own' k≠none->own k≠none\/W.heap.size<=k:=by
 obtain⟨FJ,⟨hy,⟨mb2,n2,av,D2,tbs,ttb,hW⟩,hd⟩,mG,Tc⟩:=h;obtain⟨gb,nb,pb,mb,n,cv,D,tb,hS⟩:=hy;obtain⟨own',⟨gb',nb',pb',mb',n',cv',D',tb',tq⟩,ho,eP⟩:=hY;have pj:ob<W.heap.size:=(Array.getElem?_eq_some_iff.1 FJ).1;have et:=eP.size;have Ly:=hB.size;have ld:∀k,k<W.heap.size->own k=none->w'.heap[k]? = W.heap[k]?:=fun k hk hn=>by
  rw[hT.block k (by omega) (by omega),eP.block k (by omega) (by simpa using hn),hB.block k hk]
 have eh:∀k,own' k≠none->own k≠none\/W.heap.size<=k:=fun k hk=>(ho k hk).imp id (fun h=>by omega);have lZ:∀k,own' k≠none->w'.heap[k]? = w1.heap[k]?:=fun k hk=>by
  have hl:=tq.lt k hk;refine hT.block k hl (fun e=>?_);rcases ho k hk with h1 | h1
  · have:=hS.lt k h1;omega
  · omega
 refine⟨own',⟨(ld ob pj mG).trans FJ,⟨⟨gb',nb',pb',mb',n',cv',D',tb',tq.same hT.size lZ⟩,⟨mb2,n2,av,D2,tbs,ttb,hW.same (by have:=hT.size;omega) (fun k hk=>ld k (hW.lt k hk) (hd k hk))⟩,fun k hk=>?_⟩,?_,Tc⟩,?_,eh⟩
 · by_cases e:own' k=none
   · exact e
   · rcases eh k e with h1 | h1
     · exact absurd (hd k hk) h1
     · have:=hW.lt k hk;omega
 · by_cases e:own' ob=none
   · exact e
   · rcases eh ob e with h1 | h1
     · exact absurd mG h1
     · omega
 · refine⟨?_,?_,?_,by have:=hT.size;omega,fun k hk hn=>ld k hk (by simpa using hn)⟩
   · rw[hT.os,eP.os,hB.os]
   · rw[hT.tape,eP.tape,hB.tape]
   · rw[hT.output,eP.output,hB.output]
def DoQ (ob wb sb:Nat) (s':Sy) (m:Nat) (cbs:List Nat) (L:Int->Option Tr) (own:Nat->Option Own) (ow:Nat->Option OwnW) (x y:Int) (W:World) (e:Ending) (w':World):Prop:=
 e=.returned (.agg #[I (if y=0 then x else 0),I y])/\∃own',kK w' ob wb sb s' m cbs L own' ow/\Touch (fun k=>own k≠none) W w'/\∀k,own' k≠none->own k≠none\/W.heap.size<=k
def cq (W:World) (op a b c n m:Int) (bl:Value):World:=yC (ud W op a b c n m bl) op a b c n m bl
theorem qW (W:World) (op a b c n m:Int) (bl:Value):Below W.heap.size W (cq W op a b c n m bl)/\W.heap.size+1<(cq W op a b c n m bl).heap.size/\(ud W op a b c n m bl).heap.size=W.heap.size+2 /\
 (ud W op a b c n m bl).heap[W.heap.size+1]? = some (.cells #[I 0,I 0] 37 (0,0))/\(∀k,k<W.heap.size+2->(cq W op a b c n m bl).heap[k]? = (ud W op a b c n m bl).heap[k]?)/\(∀k,k<W.heap.size->(ud W op a b c n m bl).heap[k]? = W.heap[k]?):=by
 have hz:(ud W op a b c n m bl).heap.size=W.heap.size+2:=by unfold ud;simp
 refine⟨?_,?_,hz,?_,fun k hk=>?_,fun k hk=>?_⟩
 · unfold cq yC ud;exact((((Below.refl _ W).alloc (Nat.le_refl _) _).alloc (by simp) _).alloc (by simp;omega) _).drew
 · show W.heap.size+1<((ud W op a b c n m bl).alloc _).heap.size;rw[World.size_alloc,hz];omega
 · unfold ud;have:=heap_alloc_new (W.alloc (.cells #[I op,I a,I b,I c,I n,I m,bl] 35)) (.cells #[I 0,I 0] 37);rwa [World.size_alloc] at this
 · show((ud W op a b c n m bl).alloc _).heap[k]? = _;exact Below.heap_alloc _ _ _ (by rw[hz];exact hk)
 · unfold ud;rw[Below.heap_alloc _ _ _ (by simp;omega),Below.heap_alloc _ _ _ hk]
theorem YQ.keepA {W w1:World} {ob wb sb:Nat} {s s':Sy} {mm:Nat} {cbs:List Nat} {L:Int->Option Tr} {own:Nat->Option Own} {ow:Nat->Option OwnW} {op a b c n m:Int} {bl:Value} (h:kK W ob wb sb s mm cbs L own ow) (hY:YQ sb cbs own s' (cq W op a b c n m bl) w1) :
 xE (yC (ud W op a b c n m bl) op a b c n m bl) ob (ud W op a b c n m bl).heap.size w1:=by
 obtain⟨h1,h2,h3,h4,h5,h6⟩:=qW W op a b c n m bl;obtain⟨FJ,⟨⟨gb,nb,pb,mb,n',cv,D,tb,hS⟩,_,_⟩,mG,_⟩:=h;obtain⟨own',_,_,eP⟩:=hY;have pj:ob<W.heap.size:=(Array.getElem?_eq_some_iff.1 FJ).1;have F6:(cq W op a b c n m bl).heap.size=W.heap.size+3:=by
  show((ud W op a b c n m bl).alloc _).heap.size=_;rw[World.size_alloc,h3]
 refine⟨eP.block ob (by omega) (by simpa using mG),eP.block _ (by rw[h3,F6];omega) (fun e=>by have:=hS.lt _ e;omega)⟩
theorem kK.act {W:World} {ob wb sb:Nat} {s:Sy} {mm:Nat} {cbs:List Nat} {L:Int->Option Tr} {own:Nat->Option Own} {ow:Nat->Option OwnW} (op a b c n m:Int) (bl:Value) (h:kK W ob wb sb s mm cbs L own ow) :
 (∃gb nb pb mb n' cv D tb,SysAt (cq W op a b c n m bl) sb gb nb pb mb n' cv D cbs tb own s)/\(ud W op a b c n m bl).cell? ⟨ob,0,none⟩=some (.pointer (some ⟨sb,0,none⟩))/\(ud W op a b c n m bl).cell? ⟨ob,1,none⟩=some (.pointer (some ⟨wb,0,none⟩)):=by
 obtain⟨h1,h2,h3,h4,h5,h6⟩:=qW W op a b c n m bl;have hc:=h.cells;obtain⟨FJ,⟨⟨gb,nb,pb,mb,n',cv,D,tb,hS⟩,_,_⟩,mG,_⟩:=h;have pj:ob<W.heap.size:=(Array.getElem?_eq_some_iff.1 FJ).1;exact⟨⟨gb,nb,pb,mb,n',cv,D,tb,hS.below h1⟩,(World.cell?_of_block (a:=⟨ob,0,none⟩) (h6 ob pj)).trans hc.1,(World.cell?_of_block (a:=⟨ob,1,none⟩) (h6 ob pj)).trans hc.2⟩
def yp (gs:List (Bool×Int)) (up:Int) (n:Nat):Int×Int×List (Bool×Int):=
 if zL gs up=true then(if 4<=n then(0,6,gs) else vW gs up) else(0,2,gs)
theorem Un (gb:Nat) (gs:List (Bool×Int)) (up:Int) (xs:List G16) (W:World) (h:GroupsAt W gb gs) (hL:zq gs up xs) (mt:xs.length<=1000) :
 Calls Tryz.prog 98 #[.pointer (some ⟨gb,0,none⟩),I up] W (KM gb (yp gs up xs.length) W):=by
 unfold yp;cases hh:zL gs up with
 | false=>
  refine(We gb gs up W h hh).mono ?_;rintro e w' ⟨rfl,rfl⟩;exact⟨rfl,h,Touch.refl _ _⟩
 | true=>
  by_cases h4:4<=xs.length
  · refine(Wd gb gs up xs W h hL hh h4 mt).mono ?_;rintro e w' ⟨rfl,hb⟩;rw[if_pos rfl,if_pos h4];exact⟨rfl,h.same (hb.block gb (World.block_lt_of_cell? _ _ (h.there 0 (by omega)))),Touch.of_below hb⟩
  · rw[if_pos rfl,if_neg h4];exact Uo gb gs up xs W h hL hh (by omega)
theorem Wc {gs:List (Bool×Int)} {up:Int} {n:Nat} (h:(yp gs up n).2.1=0) (hl:gs.length=16):∃k:Nat,k<16/\(yp gs up n).1=(k:Int):=by
 unfold yp at h⊢;split at h
 · rename_i h1;rw[if_pos h1];split at h
   · simp at h
   · rename_i h2;rw[if_neg h2];unfold vW at h⊢;cases hf:gs.findIdx? (fun p=>!p.1) with
     | none=>rw[hf] at h;simp at h
     | some i=>
      have:=(List.findIdx?_eq_some_iff_findIdx_eq.1 hf).1;exact⟨i,by omega,rfl⟩
 · simp at h
theorem Um {gs:List (Bool×Int)} {up:Int} {n:Nat} (h:(yp gs up n).2.1≠0):(yp gs up n).2.2=gs:=by
 unfold yp at h⊢;split
 · rename_i h1;rw[if_pos h1] at h;split
   · rfl
   · rename_i h2;rw[if_neg h2] at h;unfold vW at h⊢;cases hf:gs.findIdx? (fun p=>!p.1) with
     | none=>rfl
     | some i=>rw[hf] at h;simp at h
 · rfl
def setG (s:Sy) (gs:List (Bool×Int)):Sy:=⟨s.cores,gs,s.acc,s.ps,s.tasks,s.cnt⟩
theorem SysAt.setGs {W W':World} {sb gb nb pb mb n:Nat} {cv:Value} {D:DataW Unit} {cbs:List Nat} {tb:Int->Nat} {own:Nat->Option Own} {s:Sy} (h:SysAt W sb gb nb pb mb n cv D cbs tb own s) (gs:List (Bool×Int)) (hg:GroupsAt W' gb gs) (hT:Touch (fun k=>k=gb) W W') :
 SysAt W' sb gb nb pb mb n cv D cbs tb own (setG s gs):=by
 have ay:∀x o,own x=some o->o≠.groups->W'.heap[x]? = W.heap[x]?:=fun x o hx ho=>hT.block x (h.lt x (by rw[hx];simp)) (fun e=>by subst e;rw[h.ogb] at hx;exact ho (by simpa using hx.symm));have Bv:=ay sb _ h.osb (by simp);have h0:∀i,W'.cell? ⟨sb,i,none⟩=W.cell? ⟨sb,i,none⟩:=fun i=>World.cell?_of_block Bv;have h1:∀i,W'.frozen? ⟨sb,i,none⟩=W.frozen? ⟨sb,i,none⟩:=fun i=>World.frozen?_of_block Bv;refine⟨(h0 _).trans h.head,(h0 _).trans h.c1,fun i hi=>?_,(h0 _).trans h.c66,(h0 _).trans h.c67,fun i=>(h1 i).trans (h.live i),hg,h.slots.same (ay nb _ h.onb (by simp)) (ay pb _ h.opb (by simp)),
  yc h.map (ay mb _ h.omb (by simp)),h.cnt,h.reads,fun id t ht=>?_,zb h.row (fun k hk=>ay k _ (h.rown k hk) (by simp)),h.rown,h.num,fun i hi=>(h.core i hi).same hT.size (fun k hk=>ay k _ hk (by simp)),h.osb,h.ogb,h.onb,h.opb,h.omb,fun k hk=>Nat.lt_of_lt_of_le (h.lt k hk) hT.size⟩
 · obtain⟨a0,a1,a2,a3⟩:=h.acc i hi;exact⟨(h0 _).trans a0,(h0 _).trans a1,(h0 _).trans a2,(h0 _).trans a3⟩
 · obtain⟨t1,t2⟩:=h.task id t ht;exact⟨t1.same (ay _ _ t2 (by simp)),t2⟩
def xk (s:Sy) (up q p:Int) (n:Nat):Int×Int×Sy:=
 if (wF q p).2≠0 then(0,(wF q p).2,s)
 else if (yp s.gs up n).2.1≠0 then(0,(yp s.gs up n).2.1,s)
 else((yp s.gs up n).1,0,zU (setG s (yp s.gs up n).2.2) (s.acc.set (yp s.gs up n).1.toNat (wF q p).1))
theorem YQ.below {sb gb nb pb mb n:Nat} {cv:Value} {D:DataW Unit} {cbs:List Nat} {tb:Int->Nat} {own:Nat->Option Own} {s:Sy} {W W':World} (h:SysAt W sb gb nb pb mb n cv D cbs tb own s) (hb:Below W.heap.size W W'):YQ sb cbs own s W W':=
 ⟨own,⟨gb,nb,pb,mb,n,cv,D,tb,h.below hb⟩,fun _ hk=>.inl hk,Touch.of_below hb⟩
theorem Wa {W:World} {c sb:Nat} {u0 u1 u2 u3:Int} (h:W.cell? ⟨c,0,none⟩=some (I u0)/\W.cell? ⟨c,1,none⟩=some (I u1)/\W.cell? ⟨c,2,none⟩=some (I u2)/\W.cell? ⟨c,3,none⟩=some (I u3)) (ay:c≠sb) (i0 i1 i2 i3:Nat) (v0 v1 v2 v3:Value) :
 let W':=(((W.setCell ⟨sb,i0,none⟩ v0).setCell ⟨sb,i1,none⟩ v1).setCell ⟨sb,i2,none⟩ v2).setCell ⟨sb,i3,none⟩ v3
 W'.cell? ⟨c,0,none⟩=some (I u0)/\W'.cell? ⟨c,1,none⟩=some (I u1)/\W'.cell? ⟨c,2,none⟩=some (I u2)/\W'.cell? ⟨c,3,none⟩=some (I u3):=by
 have hh:∀(V:World) (j i:Nat) (v:Value),(V.setCell ⟨sb,i,none⟩ v).cell? ⟨c,j,none⟩=V.cell? ⟨c,j,none⟩:=fun V j i v=>za _ (fun e=>ay (congrArg Addr.block e));simp only[hh];exact h
theorem Wj (sb:Nat) (cbs:List Nat) (own:Nat->Option Own) (s:Sy) (up q p:Int) (xs:List G16) (W:World) (h:∃gb nb pb mb n cv D tb,SysAt W sb gb nb pb mb n cv D cbs tb own s) (hL:zq s.gs up xs) (mt:xs.length<=1000) (hl:s.acc.length=16) (eL:s.gs.length=16) :
 Calls Tryz.prog 46 #[.pointer (some ⟨sb,0,none⟩),I up,I q,I p] W
  (fun e w'=>e=.returned (.tuple #[I (xk s up q p xs.length).1,I (xk s up q p xs.length).2.1])/\YQ sb cbs own (xk s up q p xs.length).2.2 W w'):=by
 obtain⟨gb,nb,pb,mb,n,cv,D,tb,hS⟩:=h;have aZ:=VS q p W;have CV:=@Wc s.gs up xs.length;have CW:=@Um s.gs up xs.length;unfold xk;obtain⟨⟨⟨u0,u1,u2,u3⟩,ue⟩,hu⟩:∃r,wF q p=r:=⟨_,rfl⟩
 rw[hu] at aZ⊢;simp only[vr] at aZ⊢;have nC:=fun W' h'=>Un gb s.gs up xs W' h' hL mt;obtain⟨⟨r1,r2,r3⟩,hr⟩:∃r,yp s.gs up xs.length=r:=⟨_,rfl⟩
 rw[hr] at nC CV CW⊢;simp only at nC CV CW⊢;have c1:=hS.c1;have LV:=hS.lt sb (by rw[hS.osb];simp);have ay:sb≠gb:=fun e=>by have a:=hS.osb;rw[e,hS.ogb] at a;cases a
 have HS:=lH hS;have Rc:=lH hl;have HF:=lH (CV · eL);have Rr:=lH CW;have mc:=lH nC;clear hS hl eL hu hr hL mt nC CV CW;by_cases Dj:ue=0
 · subst Dj;rw[if_neg (by simp)];by_cases NZ:r2=0
   · subst NZ;rw[if_neg (by simp)];obtain⟨k,hk,rfl⟩:=HF.out rfl;have Cn:(k:Int)<16:=by omega
     have aX:0<=(k:Int):=by omega
     go_enter Tryz.func46,Tryz.ntmps46;go_wp2_with fail
     refine aZ.mono ?_;rintro e w1 ⟨rfl,ab⟩;have pS:Below W.heap.size W (w1.alloc (.cells #[I u0,I u1,I u2,I u3] 119)):=ab.alloc ab.size _;have eu:=HS.out.below pS;have d1:=eu.c1;have Ea:=heap_alloc_new w1 (.cells #[I u0,I u1,I u2,I u3] 119);have Bq:=mc.out _ eu.groups;have ef:=lH pS;have iL:=lH eu;have RG:=lH Ea;clear eu pS Ea;have aI:=ab.size;clear ab;go_wp2_with fail
     refine Bq.mono ?_;rintro e w2 ⟨rfl,oI,nI⟩;have iA:=iL.out.setGs r3 oI nI;have lS:=(nI.block w1.heap.size (by simp) (fun e=>by have:=HS.out.lt gb (by rw[HS.out.ogb];simp);omega)).trans RG.out;have b0:w2.cell? ⟨w1.heap.size,0,none⟩=some (I u0):=by simp[World.cell?,lS]
     have b1:w2.cell? ⟨w1.heap.size,1,none⟩=some (I u1):=by simp[World.cell?,lS]
     have b2:w2.cell? ⟨w1.heap.size,2,none⟩=some (I u2):=by simp[World.cell?,lS]
     have b3:w2.cell? ⟨w1.heap.size,3,none⟩=some (I u3):=by simp[World.cell?,lS]
     obtain⟨a0,a1,a2,a3⟩:=iA.acc k hk;have l0:=iA.live (2+k*4);have l1:=iA.live (2+k*4+1);have l2:=iA.live (2+k*4+2);have l3:=iA.live (2+k*4+3);have sS:=iA.setA k hk Rc.out u0 u1 u2 u3;have pM:=lH sS;have eR:=lH nI;have iy:=lH iA;have iH:w2.drew.cell? ⟨w1.heap.size,0,none⟩=some (I u0)/\w2.drew.cell? ⟨w1.heap.size,1,none⟩=some (I u1)/\w2.drew.cell? ⟨w1.heap.size,2,none⟩=some (I u2)/\w2.drew.cell? ⟨w1.heap.size,3,none⟩=some (I u3):=⟨b0,b1,b2,b3⟩
     have O4:=Wa iH (sb:=sb) (by have:=HS.out.lt sb (by rw[HS.out.osb];simp);omega) (2+k*4) (2+k*4+1) (2+k*4+2) (2+k*4+3) (I u0) (I u1) (I u2) (I u3);clear oI nI iA sS lS b0 b1 b2 b3;go_wp2_with fail
     go_region_held3 (fun W2=>W2.cell? ⟨w1.heap.size,0,none⟩=some (I u0)/\W2.cell? ⟨w1.heap.size,1,none⟩=some (I u1)/\W2.cell? ⟨w1.heap.size,2,none⟩=some (I u2)/\W2.cell? ⟨w1.heap.size,3,none⟩=some (I u3)) (first | exact iH | exact O4) (fail)
     clear iH O4;go_wp2_with fail
     go_ret2
     refine⟨rfl,own,⟨gb,nb,pb,mb,n,cv,D,tb,pM.out.drew1⟩,fun _ hk=>.inl hk,?_⟩;have t2:=eR.out;have tS:Touch (fun k=>own k≠none) _ w2:=(Touch.of_below ef.out).self (t2.wider (fun k hk=>by rw[hk,HS.out.ogb];simp));have AL:own sb≠none:=by rw[HS.out.osb];simp
     exact Touch.drew ((((tS.setCell (t:=none) (Or.inl AL) _).setCell (t:=none) (Or.inl AL) _).setCell (t:=none) (Or.inl AL) _).setCell (t:=none) (Or.inl AL) _)
   · rw[if_pos NZ];have la:=Rr.out NZ;subst la;go_enter Tryz.func46,Tryz.ntmps46;go_wp2_with fail
     refine aZ.mono ?_;rintro e w1 ⟨rfl,ab⟩;have pS:Below W.heap.size W (w1.alloc (.cells #[I u0,I u1,I u2,I u3] 119)):=ab.alloc ab.size _;have eu:=HS.out.below pS;have d1:=eu.c1;have Bq:=mc.out _ eu.groups;have ef:=lH pS;have iL:=lH eu;clear eu pS ab;go_wp2_with fail
     refine Bq.mono ?_;rintro e w2 ⟨rfl,oI,nI⟩;have iy:=lH (iL.out.setGs s.gs oI nI);have eR:=lH nI;clear oI nI;go_wp2_with fail
     go_ret2
     exact⟨rfl,own,⟨gb,nb,pb,mb,n,cv,D,tb,iy.out⟩,fun _ hk=>.inl hk,(Touch.of_below ef.out).self (eR.out.wider (fun k hk=>by rw[hk,HS.out.ogb];simp))⟩
 · rw[if_pos Dj];go_enter Tryz.func46,Tryz.ntmps46;go_wp2_with fail
   refine aZ.mono ?_;rintro e w1 ⟨rfl,ab⟩;have pS:Below W.heap.size W (w1.alloc (.cells #[I u0,I u1,I u2,I u3] 119)):=ab.alloc ab.size _;have ef:=lH pS;clear pS ab;go_wp2_with fail
   go_ret2
   exact⟨rfl,YQ.below HS.out ef.out⟩
def tkA (N:Int) (acc:List xS) (g:Int):List xS:=
 acc.set g.toNat (zJ (acc.getD g.toNat default).1 (acc.getD g.toNat default).2.1 (acc.getD g.toNat default).2.2.1 (acc.getD g.toNat default).2.2.2 N).1
theorem cY (N:Int) (acc:List xS) (g:Int):(tkA N acc g).length=acc.length:=by simp[tkA]
theorem QF (N:Int) (ids:List Int) (acc:List xS):(ids.foldl (tkA N) acc).length=acc.length:=by
 induction ids generalizing acc with
 | nil=>rfl
 | cons a l ih=>exact(ih _).trans (cY N acc a)
noncomputable def vX (s:Sy) (t:Tk):Bool:=@decide (∃xs,zq s.gs t.group xs/\xs.any (zO s)=true) (Classical.propDecidable _)
theorem vi {s:Sy} {t:Tk} {xs:List G16} (h:zq s.gs t.group xs):vX s t=xs.any (zO s):=by
 unfold vX;cases hx:xs.any (zO s) with
 | true=>exact @decide_eq_true _ (Classical.propDecidable _) ⟨xs,h,hx⟩
 | false=>
  refine @decide_eq_false _ (Classical.propDecidable _) ?_;rintro⟨ys,h1,h2⟩;rw[h1.unique h,hx] at h2;cases h2
noncomputable def yJ (s:Sy) (id:Int):Sy:=
 match s.tasks id with
 | none=>s
 | some t=>if t.state=5/\vX s t=false then(zX s id t false t.core.toNat 7 true).2 else s
def gN:Sy->List Int->Prop
 | _,[]=>True
 | s,id::ids=>(∃t xs,s.tasks id=some t/\zq s.gs t.group xs/\(t.state=5->xs.any (zO s)=false->∃i:Nat,t.core=i/\i<s.cores.length/\xT s/\(zX s id t false i 7 true).1=0))/\gN (yJ s id) ids
theorem qx {gs:List (Bool×Int)} {x:Int}:∀{k:Nat},x∈yU gs k->0<=x/\x<k
 | 0,h=>by cases h
 | k+1,h=>by
  rcases List.mem_append.1 (show x∈yU gs k++_ from h) with h | h
  · have:=qx h;omega
  · split at h
    · rw[List.mem_singleton] at h;omega
    · cases h
theorem uL {α β:Type} (f:β->α->β) (s:β) (l:List α) (k:Nat) (h:k<l.length):(l.take (k+1)).foldl f s=f ((l.take k).foldl f s) l[k]:=by
 rw[List.take_succ_eq_append_getElem h,List.foldl_append];rfl
theorem QE (sb:Nat) (N:Int) (W:World) (hN:N<0):Calls Tryz.prog 56 #[.pointer (some ⟨sb,0,none⟩),I N] W fun e w'=>e=.returned (I 1)/\W=w':=by
 go_enter Tryz.func56,Tryz.ntmps56;go_wp2_with fail
 go_ret
 exact⟨rfl,rfl⟩
theorem KD (sb:Nat) (cbs:List Nat) (own:Nat->Option Own) (s:Sy) (N:Int) (W:World) (h:∃gb nb pb mb n cv D tb,SysAt W sb gb nb pb mb n cv D cbs tb own s) (hN:0<=N/\N<=9223372036854775807) (hl:s.acc.length=16) (hz:xj s.ps) (hd:gn s)
 (lQ:∀ids:List Int,ids.Perm (zf s.ps)->gN (zU s ((yU s.gs 16).foldl (tkA N) s.acc)) ids) :
 Calls Tryz.prog 56 #[.pointer (some ⟨sb,0,none⟩),I N] W
  (fun e w'=>e=.returned (I 0)/\∃ids:List Int,ids.Perm (zf s.ps)/\ids.Pairwise (fun a b=>¬b<a)/\YQ sb cbs own (ids.foldl yJ (zU s ((yU s.gs 16).foldl (tkA N) s.acc))) W w'):=by
 obtain⟨gb,nb,pb,mb,n,cv,D,tb,hS⟩:=h;have aM:=Up gb s.gs W hS.groups;have c1:=hS.c1;have ev:∀x∈yU s.gs 16,0<=x/\x<16:=fun x hx=>by have:=qx hx;omega
 have ag:=jv s.gs 16;obtain⟨ids,iX⟩:∃ids,yU s.gs 16=ids:=⟨_,rfl⟩
 rw[iX] at aM ev lQ ag⊢;obtain⟨m,hm⟩:∃m,ids.length=m:=⟨_,rfl⟩
 rw[hm] at aM ag;obtain⟨S1,E5⟩:∃S1,zU s (ids.foldl (tkA N) s.acc)=S1:=⟨_,rfl⟩
 rw[E5] at lQ⊢;have HE:=lH E5;have HM:=lH hm;have Mo:=lH ev;have HS:=lH hS;have HL:=lH hl;have HZ:=lH hz;have HD:=lH hd;have Dt:=lH lQ;obtain⟨CK,Aa⟩:=hN;clear hS hl hz hd lQ iX hm ev E5;go_enter Tryz.func56,Tryz.ntmps56;go_wp2_with fail
 refine aM.mono ?_;rintro e w1 ⟨v,rfl,aa,ab⟩;obtain⟨p,c,hv⟩:∃p c,v=.slice p m c:=by
  rcases aa.2 with⟨e,h0⟩ | ⟨g,cap,cur,e,_⟩
  · exact⟨none,0,by rw[e,h0]⟩
  · exact⟨_,_,e⟩
 subst hv;have HR:=lH aa;have HB:=lH ab;have iL:=lH (HS.out.below ab);have Tj:=HS.out.lt sb (by rw[HS.out.osb];simp);clear aM aa ab c1;go_wp2_with fail
 go_loopw [18] (fun x wr=>∃k:Nat,k<=m/\x=I k/\Hid (SysAt wr sb gb nb pb mb n cv D cbs tb own (zU s ((ids.take k).foldl (tkA N) s.acc)))/\Hid (Touch (fun j=>j=sb) w1 wr)) (fun x _=>m-(intOf x).toNat)
 case atStart=>exact⟨0,Nat.zero_le _,rfl,lH iL.out,lH (Touch.refl _ _)⟩
 case round=>
  obtain⟨k,hk,rfl,HSr,HTr⟩:=hrel;by_cases rq:k<m
  · have iY:(k:Int)<(m:Int):=by omega
    have aX:0<=(k:Int):=by omega
    have aw:k<ids.length:=by rw[HM.out];exact rq
    obtain⟨g,hp⟩:∃g,p=some ⟨g,0,none⟩:=by
     rcases HR.out.2 with⟨_,h0⟩ | ⟨g,cap,cur,e,_⟩
     · omega
     · simp only[Value.slice.injEq] at e;exact⟨g,e.1⟩
    subst hp;have eL:=HR.out.lt g rfl;have ap:wr.cell? ⟨g,k,none⟩=some (I (ids[k]'aw)):=by
     refine(World.cell?_of_block (a:=⟨g,k,none⟩) (HTr.out.block g eL.2 (by omega))).trans ?_;have:=HR.out.cells (g:=g) rfl k (I (ids[k]'aw)) (by rw[List.getElem?_map,List.getElem?_eq_getElem aw];rfl);simpa [Addr.add_lit] using this
    have tD:=Mo.out (ids[k]'aw) (List.getElem_mem aw);have ak:=uL (tkA N) s.acc ids k aw;obtain⟨j,hj⟩:=Int.eq_ofNat_of_zero_le tD.1;rw[hj] at ap ak tD;have ml:j<16:=by omega
    have DY:(j:Int)<16:=by omega
    have oh:0<=(j:Int):=by omega
    obtain⟨ac,nM⟩:∃ac,(ids.take k).foldl (tkA N) s.acc=ac:=⟨_,rfl⟩
    have Bp:ac.length=16:=by rw[<- nM,QF];exact HL.out
    rw[nM] at ak;have Ax:=HSr.out;rw[nM] at Ax;have Lw:=lH Ax;have Ev:=lH Bp;obtain⟨a0,a1,a2,a3⟩:=Ax.acc j ml;simp only[zU] at a0 a1 a2 a3;have aG:tkA N ac j=ac.set j (zJ (ac.getD j default).1 (ac.getD j default).2.1 (ac.getD j default).2.2.1 (ac.getD j default).2.2.2 N).1:=by simp[tkA]
    rw[aG] at ak;generalize(ac.getD j default).1=q0 at a0 ak;generalize(ac.getD j default).2.1=q1 at a1 ak;generalize(ac.getD j default).2.2.1=q2 at a2 ak;generalize(ac.getD j default).2.2.2=q3 at a3 ak;have pr:=fun W'=>XI q0 q1 q2 q3 N W' (by omega) Aa;obtain⟨⟨⟨u0,u1,u2,u3⟩,ue⟩,hu⟩:∃r,zJ q0 q1 q2 q3 N=r:=⟨_,rfl⟩
    rw[hu] at pr ak;simp only[vr] at pr ak;have lL:=lH ak;clear aG hu ak tD hj nM Bp Ax;go_wp2_with fail
    have rZ:=Lw.out.drew1;have l0:=rZ.live (2+j*4);have l1:=rZ.live (2+j*4+1);have l2:=rZ.live (2+j*4+2);have l3:=rZ.live (2+j*4+3);have pA:=lH HTr.out.drew;obtain⟨wd,P7⟩:∃wd,wr.drew=wd:=⟨_,rfl⟩
    have TG:=lH P7;clear P7;have rW:=lH rZ;clear rZ ap;go_region_law (go_simp;go_at_call 116;refine(pr _).mono ?_;rintro e w9 ⟨rfl,eQ⟩;have ms:=lH (rW.out.below eQ);have AS:=lH (pA.out.self (Touch.of_below eQ));obtain⟨b0,b1,b2,b3⟩:=ms.out.acc j ml;simp only[zU] at b0 b1 b2 b3;have m0:=ms.out.live (2+j*4);have m1:=ms.out.live (2+j*4+1);have m2:=ms.out.live (2+j*4+2);have m3:=ms.out.live (2+j*4+3))
    have sS:=ms.out.setA j ml Ev.out u0 u1 u2 u3;have ip:=(((AS.out.setCell (c:=sb) (i:=2+j*4) (t:=none) (Or.inl rfl) (I u0)).setCell (c:=sb) (i:=2+j*4+1) (t:=none) (Or.inl rfl) (I u1)).setCell (c:=sb) (i:=2+j*4+2) (t:=none) (Or.inl rfl) (I u2)).setCell (c:=sb) (i:=2+j*4+3) (t:=none) (Or.inl rfl) (I u3);have AX:SysAt ((((w9.setCell ⟨sb,2+j*4,none⟩ (I u0)).setCell ⟨sb,2+j*4+1,none⟩ (I u1)).setCell ⟨sb,2+j*4+2,none⟩ (I u2)).setCell ⟨sb,2+j*4+3,none⟩ (I u3)) sb gb nb pb mb n cv D cbs tb own (zU s ((ids.take (k+1)).foldl (tkA N) s.acc)):=by rw[lL.out];exact sS
    have MD:=lH AX;have EQ:=lH ip;clear sS AX ip b0 b1 b2 b3 m0 m1 m2 m3 l0 l1 l2 l3 a0 a1 a2 a3;go_wp2_with fail
    go_roundw
    case rel=>exact⟨k+1,rq,by go_num,MD,EQ⟩
    case measure=>simp[intOf];omega
  · obtain rfl:k=m:=by omega
    obtain⟨wA,rfl⟩:∃x,x=wr:=⟨_,rfl⟩
    have Ax:=HSr.out;rw[show ids.take k=ids from List.take_of_length_le (by rw[HM.out];exact Nat.le_refl _)] at Ax;have iV:S1.ps=s.ps:=by rw[<- HE.out];rfl
    have aI:xj S1.ps:=by rw[iV];exact HZ.out
    have Pp:gn S1:=by rw[<- HE.out];exact HD.out
    rw[HE.out] at Ax;have lf:=kA sb gb nb pb mb n cv D cbs tb own S1 wA Ax aI Pp;rw[iV] at lf;have Lw:=lH Ax;clear iV aI Pp Ax;go_wp2_with fail
    refine lf.mono ?_;rintro e w3 ⟨v,ids2,rfl,eD,oK,aa,aK⟩;obtain⟨m2,rM⟩:∃m2,ids2.length=m2:=⟨_,rfl⟩
    obtain⟨p2,c2,hv⟩:∃p c,v=.slice p m2 c:=by
     rcases aa.2 with⟨e,h0⟩ | ⟨g,cap,cur,e,_⟩
     · exact⟨none,0,by rw[e,<- rM,h0]⟩
     · exact⟨_,_,by rw[e,rM]⟩
    subst hv;have mx:m2<=64:=by rw[<- rM,eD.length_eq];exact Nat.le_trans (yl _ _) HZ.out.1
    have nL:=lH aa;have AP:=lH aK;have Ce:=lH eD;have CC:=lH oK;have Mn:=lH rM;have rW:=lH (Lw.out.below aK);clear lf aa aK eD oK rM;go_wp2_with fail
    go_loopw [42] (fun x WZ=>∃q:Nat,q<=m2/\x=I q/\Hid (∃own',SysAt WZ sb gb nb pb mb n cv D cbs tb own' ((ids2.take q).foldl yJ S1)/\(∀j,j<w3.heap.size->own' j=own j)/\Touch (fun j=>own j≠none) w3 WZ)/\Hid (gN ((ids2.take q).foldl yJ S1) (ids2.drop q))) (fun x _=>m2-(intOf x).toNat)
    case atStart=>exact⟨0,Nat.zero_le _,rfl,lH ⟨own,rW.out,fun _ _=>rfl,Touch.refl _ _⟩,lH (Dt.out _ Ce.out)⟩
    case round=>
     obtain⟨q,hq,rfl,HSq,HKq⟩:=hrel;by_cases oy:q<m2
     · have oL:(q:Int)<(m2:Int):=by omega
       have Da:0<=(q:Int):=by omega
       have nO:q<ids2.length:=by rw[Mn.out];exact oy
       obtain⟨g2,hp⟩:∃g,p2=some ⟨g,0,none⟩:=by
        rcases nL.out.2 with⟨_,h0⟩ | ⟨g,cap,cur,e,_⟩
        · have:=Mn.out;omega
        · simp only[Value.slice.injEq] at e;exact⟨g,e.1⟩
       subst hp;have oI:=nL.out.lt g2 rfl;obtain⟨own',CM,nz,rj⟩:=HSq.out;have NR:own g2=none:=by
        cases e:own g2 with
        | none=>rfl
        | some o=>have:=Lw.out.lt g2 (by rw[e];simp);omega
       have ap:wr.cell? ⟨g2,q,none⟩=some (.pointer (some ⟨tb (ids2[q]'nO),0,none⟩)):=by
        refine(World.cell?_of_block (a:=⟨g2,q,none⟩) (rj.block g2 oI.2 (by simp[NR]))).trans ?_;have:=nL.out.cells (g:=g2) rfl q (.pointer (some ⟨tb (ids2[q]'nO),0,none⟩)) (by rw[List.getElem?_map,List.getElem?_eq_getElem nO];rfl);simpa [Addr.add_lit] using this
       have DE:=HKq.out;rw[List.drop_eq_getElem_cons nO] at DE;have mq:(ids2.take (q+1)).foldl yJ S1=yJ ((ids2.take q).foldl yJ S1) (ids2[q]'nO):=by
        rw[List.take_succ_eq_append_getElem nO,List.foldl_append];rfl
       obtain⟨S,Hu⟩:∃S,(ids2.take q).foldl yJ S1=S:=⟨_,rfl⟩
       rw[Hu] at DE mq CM;obtain⟨⟨t,xs,ht,hL,rl⟩,E2⟩:=DE;obtain⟨id,hid⟩:∃id,ids2[q]'nO=id:=⟨_,rfl⟩
       rw[hid] at ap ht mq rl E2;have aU:=vi hL;obtain⟨DK,eP⟩:=CM.task id t ht;have aG:=DK.state;have il:=jQ sb gb nb pb mb n cv D cbs tb own' S (tb id) t xs wr CM DK hL;have Ab:yJ S id=if t.state=5/\vX S t=false then(zX S id t false t.core.toNat 7 true).2 else S:=by unfold yJ;rw[ht]
       have sO:=lH CM;have HO':=lH nz;have HT':=lH rj;have EF:=lH E2;have Ld:=lH rl;have Lx:=lH ht;have me:=lH hL;obtain⟨b,hb⟩:∃b,tb id=b:=⟨_,rfl⟩
       rw[hb] at ap aG il;have nR:=lH hb;rw[aU] at Ab;obtain⟨hd,Nw⟩:∃x,xs.any (zO S)=x:=⟨_,rfl⟩
       rw[Nw] at il Ab;have OC:=lH Nw;have iy:=lH mq;have Ar:=lH Ab;clear E2 rl ht hL aU DK eP Ab hb Nw hid CM nz rj mq Hu;by_cases h5:t.state=5
       · rw[h5] at aG;cases hd with
         | true=>
          have am:(ids2.take (q+1)).foldl yJ S1=S:=by rw[iy.out,Ar.out,if_neg (by simp)]
          have pB:=EF.out;rw[Ar.out,if_neg (by simp)] at pB;have aA:=lH am;clear am;go_wp2_with fail
          refine il.mono ?_;rintro e w5 ⟨rfl,mY⟩;have pu:=lH mY;clear mY il;go_wp2_with fail
          go_roundw
          case rel=>exact⟨q+1,oy,by go_num,lH ⟨own',by rw[aA.out];exact sO.out.below pu.out,HO'.out,HT'.out.self (Touch.of_below pu.out)⟩,lH (by rw[aA.out];exact pB)⟩
          case measure=>simp[intOf];omega
         | false=>
          obtain⟨i,hi,eB,og,Fn⟩:=Ld.out h5 OC.out;have lO:t.core.toNat=i:=by omega
          have am:(ids2.take (q+1)).foldl yJ S1=(zX S id t false i 7 true).2:=by rw[iy.out,Ar.out,if_pos ⟨h5,rfl⟩,lO]
          have pB:=EF.out;rw[Ar.out,if_pos ⟨h5,rfl⟩,lO] at pB;have aj:=fun W' (hB:Below wr.heap.size wr W')=>qy sb gb nb pb mb n cv D cbs tb own' S id 7 t true xs i W' (sO.out.below hB) Lx.out me.out hi (by rw[sO.out.num];exact eB) og;rw[OC.out,Fn,nR.out] at aj;have aA:=lH am;have rC:=lH pB;have HI:=lH hi;clear am pB hi lO Fn;go_wp2_with fail
          refine il.mono ?_;rintro e w5 ⟨rfl,mY⟩;have DS:=aj w5 mY;have pu:=lH mY;clear mY il aj;go_wp2_with fail
          refine DS.mono ?_;rintro e w6 ⟨rfl,own6,AX,PN,PX⟩;have MD:=lH AX;have lE:=HT'.out.size;have Rb:=pu.out.size;have RI:Hid (∀j,j<w3.heap.size->own6 j=own j):=lH (fun j hj=>(PN j (by omega)).trans (HO'.out j hj));have ER:Hid (Touch (fun j=>own j≠none) w3 w6):=lH (((HT'.out.self (Touch.of_below pu.out))).trans (fun j hj=>by
           by_cases hl:j<w3.heap.size
           · left;show own j≠none;rw[<- HO'.out j hl];exact hj
           · right;omega) PX)
          clear AX PN PX DS;go_wp2_with fail
          go_roundw
          case rel=>exact⟨q+1,oy,by go_num,lH ⟨own6,by rw[aA.out];exact MD.out,RI.out,ER.out⟩,lH (by rw[aA.out];exact rC.out)⟩
          case measure=>simp[intOf];omega
       · have am:(ids2.take (q+1)).foldl yJ S1=S:=by rw[iy.out,Ar.out,if_neg (fun e=>h5 e.1)]
         have pB:=EF.out;rw[Ar.out,if_neg (fun e=>h5 e.1)] at pB;have aA:=lH am;have rC:=lH pB;clear am pB il;go_wp2_with fail
         go_roundw
         case rel=>exact⟨q+1,oy,by go_num,lH ⟨own',by rw[aA.out];exact sO.out,HO'.out,HT'.out⟩,lH (by rw[aA.out];exact rC.out)⟩
         case measure=>simp[intOf];omega
     · obtain rfl:q=m2:=by omega
       obtain⟨own',CM,nz,rj⟩:=HSq.out;rw[show ids2.take q=ids2 from List.take_of_length_le (by rw[Mn.out];exact Nat.le_refl _)] at CM;have sO:=lH CM;have HO':=lH nz;have HT':=lH rj;clear CM nz rj;go_wp2_with fail
       go_ret
       have z1:=HB.out.size;have z2:=HTr.out.size;have z3:=AP.out.size;refine⟨rfl,ids2,Ce.out,CC.out,own',⟨gb,nb,pb,mb,n,cv,D,tb,sO.out⟩,fun j hj=>?_,?_⟩
       · by_cases hl:j<w3.heap.size
         · left;rw[<- HO'.out j hl];exact hj
         · right;omega
       · have AL:own sb≠none:=by rw[HS.out.osb];simp
         have t1:Touch (fun k=>own k≠none) W wA:=(Touch.of_below HB.out).self (HTr.out.wider (fun k hk=>by rw[hk];exact AL));exact(t1.self (Touch.of_below AP.out)).self HT'.out
end
theorem ZR (m:Int) (S T:Nat):∀(ps:List Pt) (b:Option Pt),
 (∀q,b=some q->∃r,ps.foldl (xw m S T) b=some r/\r.day<=q.day) /\
 (∀p∈ps,¬S<dN m p*T->∃r,ps.foldl (xw m S T) b=some r/\r.day<=p.day) /\
 (∀r,ps.foldl (xw m S T) b=some r->b=some r\/r∈ps):=by
 intro ps;induction ps with
 | nil=>intro b;exact⟨fun q hq=>⟨q,hq,Int.le_refl _⟩,fun p hp=>by simp at hp,fun r hr=>.inl hr⟩
 | cons p l ih=>
  intro b;obtain⟨h1,h2,h3⟩:=ih (xw m S T b p);have hs:(∀q,b=some q->∃r,xw m S T b p=some r/\r.day<=q.day)/\(¬S<dN m p*T->∃r,xw m S T b p=some r/\r.day<=p.day)/\(∀r,xw m S T b p=some r->b=some r\/r=p):=by
   unfold xw;by_cases hS:S<dN m p*T
   · rw[if_pos hS];exact⟨fun q hq=>⟨q,hq,Int.le_refl _⟩,fun hn=>absurd hS hn,fun r hr=>.inl hr⟩
   · rw[if_neg hS];cases b with
     | none=>exact⟨(fun q hq=>by cases hq),(fun _=>⟨p,rfl,Int.le_refl _⟩),(fun r hr=>.inr (by cases hr;rfl))⟩
     | some q=>
      simp only
      split
      · rename_i hd;exact⟨(fun q' hq=>⟨p,rfl,by cases hq;omega⟩),(fun _=>⟨p,rfl,Int.le_refl _⟩),(fun r hr=>.inr (by cases hr;rfl))⟩
      · rename_i hd;exact⟨(fun q' hq=>⟨q,rfl,by cases hq;exact Int.le_refl _⟩),(fun _=>⟨q,rfl,by omega⟩),(fun r hr=>.inl hr)⟩
  obtain⟨s1,s2,s3⟩:=hs;refine⟨fun q hq=>?_,fun p' FM hn=>?_,fun r hr=>?_⟩
  · obtain⟨r,e,hr⟩:=s1 q hq;obtain⟨r2,e2,rR⟩:=h1 r e;exact⟨r2,e2,by omega⟩
  · rcases List.mem_cons.1 FM with rfl | FM
    · obtain⟨r,e,hr⟩:=s2 hn;obtain⟨r2,e2,rR⟩:=h1 r e;exact⟨r2,e2,by omega⟩
    · exact h2 p' FM hn
  · rcases h3 r hr with e | e
    · rcases s3 r e with e2 | e2
      · exact .inl e2
      · exact .inr (by rw[e2];exact List.mem_cons_self)
    · exact .inr (List.mem_cons_of_mem _ e)
structure LnK (k:Nat) (b:Int) (l:Ln):Prop where
 ids:uw l.ps
 nn:Ids l
 w:∀p∈l.ps,1<=p.w/\p.w<=20
 lag:∀p∈l.ps,-((k:Int)*232792560)<=l.base-p.v/\l.base-p.v<=(k:Int)*232792560
 base:0<=l.base/\l.base<=b
 least:l.ps=[]\/∃p∈l.ps,p.v<=l.base
 cur:l.cur=-1\/∃p∈l.ps,p.id=l.cur
def xd (l:Ln) (x w:Int):Prop:=∃p∈l.ps,p.id=x/\p.w=w
theorem LnK.mono {k k':Nat} {b b':Int} {l:Ln} (h:LnK k b l) (hk:k<=k') (hb:b<=b'):LnK k' b' l:=
 ⟨h.ids,h.nn,h.w,fun p hp=>by have:=h.lag p hp;omega,by have:=h.base;omega,h.least,h.cur⟩
theorem uA (b:Int) (p:Pt) (l:List Pt):yY b (p::l)=if b<(yv (p::l)).v then(yv (p::l)).v else b:=rfl
theorem Ut (b:Int) (ps:List Pt):b<=yY b ps:=by
 cases ps with
 | nil=>exact Int.le_refl _
 | cons p l=>
  rw[uA];by_cases e:b<(yv (p::l)).v
  · rw[if_pos e];omega
  · rw[if_neg e];omega
theorem hZ (b:Int) (ps:List Pt):yY b ps=b\/((∃p∈ps,p.v=yY b ps)/\∀p∈ps,yY b ps<=p.v):=by
 cases ps with
 | nil=>exact .inl rfl
 | cons p l=>
  rw[uA];by_cases e:b<(yv (p::l)).v
  · rw[if_pos e];exact .inr ⟨⟨_,xH _ (by simp),rfl⟩,uD _⟩
  · rw[if_neg e];exact .inl rfl
theorem bD (b:Int) (ps:List Pt):ps=[]\/∃p∈ps,p.v<=yY b ps:=by
 cases ps with
 | nil=>exact .inl rfl
 | cons p l=>
  refine .inr ⟨_,xH (p::l) (by simp),?_⟩;rw[uA];by_cases e:b<(yv (p::l)).v
  · rw[if_pos e];exact Int.le_refl _
  · rw[if_neg e];omega
theorem LnK.grown {k:Nat} {b base cur:Int} {ps:List Pt} (iX:uw ps) (LQ:∀p∈ps,0<=p.id/\p.id<=1073741824) (hw:∀p∈ps,1<=p.w/\p.w<=20)
 (iZ:∀p∈ps,-((k:Int)*232792560)<=base-p.v/\base-p.v<=(k:Int)*232792560) (hb:0<=base/\base<=b) (hc:cur=-1\/∃p∈ps,p.id=cur) :
 LnK k (b+k*232792560) ⟨yY base ps,cur,ps⟩:=by
 have h1:=Ut base ps;refine⟨iX,LQ,hw,fun p hp=>?_,⟨by show 0<=yY base ps;omega,?_⟩,bD base ps,hc⟩
 · have h2:=iZ p hp;show -((k:Int)*232792560)<=yY base ps-p.v/\yY base ps-p.v<=(k:Int)*232792560;rcases hZ base ps with e | ⟨_,e⟩
   · rw[e];exact h2
   · have:=e p hp;omega
 · show yY base ps<=_;rcases hZ base ps with e | ⟨⟨p,hp,e⟩,_⟩
   · rw[e];omega
   · have h2:=iZ p hp;rw[<- e];omega
theorem vJ {p q:Pt} {ps:List Pt}:q∈vH p ps↔q=p\/q∈ps:=by
 rw[(v6 p ps).mem_iff];simp[or_comm]
theorem LnK.put {k:Nat} {b:Int} {l:Ln} {id w lag:Int} (h:LnK k b l) (hid:0<=id/\id<=1073741824) (hw:1<=w/\w<=20) (hl:-((k:Int)*232792560)<=lag/\lag<=(k:Int)*232792560)
 (hn:∀p∈l.ps,p.id≠id):LnK k (b+k*232792560) (xR l id w lag):=by
 unfold xR;refine LnK.grown (vY _ _ h.ids hn) (fun p hp=>?_) (fun p hp=>?_) (fun p hp=>?_) h.base ?_
 · rcases vJ.1 hp with rfl | hp
   · exact hid
   · exact h.nn p hp
 · rcases vJ.1 hp with rfl | hp
   · exact hw
   · exact h.w p hp
 · rcases vJ.1 hp with rfl | hp
   · show -((k:Int)*232792560)<=l.base-(l.base-lag)/\l.base-(l.base-lag)<=_;omega
   · exact h.lag p hp
 · rcases h.cur with e | ⟨p,hp,e⟩
   · exact .inl e
   · exact .inr ⟨p,vJ.2 (.inr hp),e⟩
theorem bF {l:Ln} {id w lag x v:Int}:xd (xR l id w lag) x v↔(x=id/\v=w)\/xd l x v:=by
 unfold xd xR;constructor
 · rintro⟨p,hp,h1,h2⟩;rcases vJ.1 hp with rfl | hp
   · exact .inl ⟨h1.symm,h2.symm⟩
   · exact .inr ⟨p,hp,h1,h2⟩
 · rintro(⟨rfl,rfl⟩ | ⟨p,hp,h1,h2⟩)
   · exact⟨_,vJ.2 (.inl rfl),rfl,rfl⟩
   · exact⟨p,vJ.2 (.inr hp),h1,h2⟩
theorem bs {ps:List Pt} (h:uw ps) {i j:Nat} (hi:i<ps.length) (hj:j<ps.length) (e:ps[i].id=ps[j].id):i=j:=by
 have h':=List.pairwise_iff_getElem.1 h;rcases Nat.lt_trichotomy i j with ah | rfl | ah
 · have:=h' i j hi hj ah;omega
 · rfl
 · have:=h' j i hj hi ah;omega
theorem ja {α:Type} (l:List α) (k:Nat) (hk:k<l.length) (a p:α):p∈l.set k a↔p=a\/∃i,∃h:i<l.length,i≠k/\l[i]=p:=by
 rw[List.mem_iff_getElem];constructor
 · rintro⟨i,hi,rfl⟩;rw[List.getElem_set];split
   · exact .inl rfl
   · rename_i e;exact .inr ⟨i,by simpa using hi,fun e'=>e e'.symm,rfl⟩
 · rintro(rfl | ⟨i,hi,ay,rfl⟩)
   · exact⟨k,by simpa using hk,by simp⟩
   · exact⟨i,by simpa using hi,by rw[List.getElem_set];rw[if_neg (fun e=>ay e.symm)]⟩
theorem bu {ps:List Pt} (h:uw ps) {k:Nat} (hk:k<ps.length) (p:Pt):(∃i,∃h:i<ps.length,i≠k/\ps[i]=p)↔p∈ps/\p.id≠ps[k].id:=by
 constructor
 · rintro⟨i,hi,ay,rfl⟩;exact⟨List.getElem_mem hi,fun e=>ay (bs h hi hk e)⟩
 · rintro⟨hp,ay⟩;obtain⟨i,hi,rfl⟩:=List.mem_iff_getElem.1 hp;exact⟨i,hi,fun e=>ay (by subst e;rfl),rfl⟩
theorem Ua {ps:List Pt} (h:uw ps) {k:Nat} (hk:k<ps.length) {q:Pt} (e:q.id=ps[k].id):uw (ps.set k q):=by
 have h1:(ps.map (·.id)).Pairwise (·<·):=List.pairwise_map.2 h;have h2:(ps.set k q).map (·.id)=ps.map (·.id):=by
  rw[List.map_set,e];have:(ps.map (·.id))[k]'(by simpa using hk)=ps[k].id:=by simp
  rw[<- this,List.set_getElem_self]
 exact List.pairwise_map.1 (h2 ▸ h1)
theorem ZU {ps:List Pt} (h:uw ps) (k:Nat):uw (ps.eraseIdx k):=List.Pairwise.sublist (List.eraseIdx_sublist ps k) h
theorem Yu {ps:List Pt} (h:uw ps) {k:Nat} (hk:k<ps.length) (p:Pt):p∈ps.eraseIdx k↔p∈ps/\p.id≠ps[k].id:=by
 rw[<- bu h hk,List.mem_eraseIdx_iff_getElem]
theorem LnK.leave {k:Nat} {b:Int} {l:Ln} (id:Int) (h:LnK k b l):LnK k (b+k*232792560) (zA l id).2.2/\(∀x v,xd (zA l id).2.2 x v↔x≠id/\xd l x v) /\
 (∀w,xd l id w->(zA l id).2.1=0/\-((k:Int)*232792560)<=(zA l id).1/\(zA l id).1<=(k:Int)*232792560):=by
 unfold zA;rcases zB l.ps id with⟨hp,hn⟩ | ⟨j,hj,hp,hid,_⟩
 · rw[if_pos (by omega)];refine⟨h.mono (Nat.le_refl _) (by omega),fun x v=>⟨fun hx=>⟨fun e=>?_,hx⟩,fun hx=>hx.2⟩,fun w ⟨p,hp,e,_⟩=>absurd e (hn p hp)⟩;obtain⟨p,hp,h1,h2⟩:=hx;exact hn p hp (h1.trans e)
 · rw[hp,if_neg (by omega)];have l9:((j:Int)).toNat=j:=by omega
   rw[l9,getElem!_pos l.ps j hj];have hm:=Yu h.ids hj;rw[hid] at hm;have iZ:=h.lag _ (List.getElem_mem hj);refine⟨LnK.grown (ZU h.ids j) (fun p hp=>h.nn p ((hm p).1 hp).1) (fun p hp=>h.w p ((hm p).1 hp).1) (fun p hp=>h.lag p ((hm p).1 hp).1) h.base ?_,fun x v=>?_,fun w _=>⟨rfl,iZ⟩⟩
   · by_cases e:l.cur=id
     · rw[if_pos e];exact .inl rfl
     · rw[if_neg e];rcases h.cur with e2 | ⟨p,hp,e2⟩
       · exact .inl e2
       · exact .inr ⟨p,(hm p).2 ⟨hp,by rw[e2];exact e⟩,e2⟩
   · unfold xd;constructor
     · rintro⟨p,hp,h1,h2⟩;have:=(hm p).1 hp;exact⟨by rw[<- h1];exact this.2,p,this.1,h1,h2⟩
     · rintro⟨ay,p,hp,h1,h2⟩;exact⟨p,(hm p).2 ⟨hp,by rw[h1];exact ay⟩,h1,h2⟩
theorem LnK.setP {k:Nat} {b:Int} {l:Ln} {j:Nat} (h:LnK k b l) (hj:j<l.ps.length) (q:Pt) (hq:q.id=l.ps[j].id) (hw:1<=q.w/\q.w<=20) (k':Nat) (hk:k<=k') (hl:-((k':Int)*232792560)<=l.base-q.v/\l.base-q.v<=(k':Int)*232792560) :
 LnK k' (b+k'*232792560) ⟨yY l.base (l.ps.set j q),l.cur,l.ps.set j q⟩/\∀x v,xd ⟨yY l.base (l.ps.set j q),l.cur,l.ps.set j q⟩ x v↔(x=q.id/\v=q.w)\/(x≠q.id/\xd l x v):=by
 have hm:∀p,p∈l.ps.set j q↔p=q\/(p∈l.ps/\p.id≠q.id):=fun p=>by rw[ja _ _ hj,bu h.ids hj,hq]
 refine⟨LnK.grown (Ua h.ids hj hq) (fun p hp=>?_) (fun p hp=>?_) (fun p hp=>?_) h.base ?_,fun x v=>?_⟩
 · rcases(hm p).1 hp with rfl | ⟨hp,_⟩
   · rw[hq];exact h.nn _ (List.getElem_mem hj)
   · exact h.nn p hp
 · rcases(hm p).1 hp with rfl | ⟨hp,_⟩
   · exact hw
   · exact h.w p hp
 · rcases(hm p).1 hp with rfl | ⟨hp,_⟩
   · exact hl
   · have:=h.lag p hp;omega
 · rcases h.cur with e | ⟨p,hp,e⟩
   · exact .inl e
   · by_cases e2:p.id=q.id
     · exact .inr ⟨q,(hm q).2 (.inl rfl),by rw[<- e2,e]⟩
     · exact .inr ⟨p,(hm p).2 (.inr ⟨hp,e2⟩),e⟩
 · unfold xd;constructor
   · rintro⟨p,hp,h1,h2⟩;rcases(hm p).1 hp with rfl | ⟨hp,ay⟩
     · exact .inl ⟨h1.symm,h2.symm⟩
     · exact .inr ⟨by rw[<- h1];exact ay,p,hp,h1,h2⟩
   · rintro(⟨rfl,rfl⟩ | ⟨ay,p,hp,h1,h2⟩)
     · exact⟨q,(hm q).2 (.inl rfl),rfl,rfl⟩
     · exact⟨p,(hm p).2 (.inr ⟨hp,by rw[h1];exact ay⟩),h1,h2⟩
theorem bC {w:Int} (h:1<=w/\w<=20):zQ w=true:=by unfold zQ;simp[h.1,h.2]
theorem LnK.weigh {k:Nat} {b:Int} {l:Ln} {id w u:Int} (h:LnK k b l) (hw:1<=w/\w<=20) (hh:xd l id u) :
 (yx l id w).1=0/\LnK k (b+k*232792560) (yx l id w).2/\∀x v,xd (yx l id w).2 x v↔(x=id/\v=w)\/(x≠id/\xd l x v):=by
 obtain⟨p,hp,h1,h2⟩:=hh;unfold yx;rcases zB l.ps id with⟨_,hn⟩ | ⟨j,hj,hp,hid,_⟩
 · exact absurd h1 (hn p hp)
 · rw[hp,if_neg (by omega),if_pos (bC hw)];have l9:((j:Int)).toNat=j:=by omega
   rw[l9,getElem!_pos l.ps j hj];obtain⟨a,b⟩:=h.setP hj (T8 ⟨l.ps[j].id,w,l.ps[j].v,0⟩) rfl hw k (Nat.le_refl _) (by have:=h.lag _ (List.getElem_mem hj);exact this);refine⟨rfl,a,fun x v=>?_⟩;have:=b x v;rw[show(T8 ⟨l.ps[j].id,w,l.ps[j].v,0⟩).id=id from hid] at this;exact this
theorem VW (m:Int) (S T:Nat) (ps:List Pt):∀p,xv m S T ps=some p->p∈ps:=by
 unfold xv;have gen:∀(qs:List Pt) (a:Option Pt),(∀p,a=some p->p∈ps)->(∀q∈qs,q∈ps)->∀p,qs.foldl (xw m S T) a=some p->p∈ps:=by
  intro qs;induction qs with
  | nil=>intro a ha _ p hp;exact ha p hp
  | cons q qs ih=>
   intro a ha hq p hp;refine ih (xw m S T a q) (fun r hr=>?_) (fun r hr=>hq r (List.mem_cons_of_mem _ hr)) p hp;unfold xw at hr;split at hr
   · exact ha r hr
   · split at hr
     · rw[Option.some.injEq] at hr;subst hr;exact hq _ List.mem_cons_self
     · split at hr
       · rw[Option.some.injEq] at hr;subst hr;exact hq _ List.mem_cons_self
       · exact ha r hr
 exact gen ps none (fun p hp=>by cases hp) (fun q hq=>hq)
theorem fL (l:Ln):(xi l).cur=-1\/∃p∈l.ps,p.id=(xi l).cur:=by
 unfold xi;by_cases e:l.ps=[]
 · rw[if_pos e];exact .inl rfl
 · rw[if_neg e];exact .inr ⟨_,xH _ e,rfl⟩
theorem WB (tag:Int) (l:Ln) (hc:l.cur=-1\/∃p∈l.ps,p.id=l.cur):(yg tag l).ps=l.ps/\(yg tag l).base=l.base/\((yg tag l).cur=-1\/∃p∈l.ps,p.id=(yg tag l).cur):=by
 unfold yg;split
 · exact⟨rfl,rfl,fL l⟩
 · split
   · unfold xI;split
     · exact⟨rfl,rfl,fL l⟩
     · split
       · exact⟨rfl,rfl,hc⟩
       · exact⟨rfl,rfl,fL l⟩
   · refine⟨rfl,rfl,?_⟩;unfold vq;simp only
     cases e:xv (yv l.ps).v (vT (yv l.ps).v l.ps) (uQ l.ps) l.ps with
     | none=>exact .inl rfl
     | some p=>exact .inr ⟨p,VW _ _ _ _ p e,rfl⟩
theorem LnK.pick {k:Nat} {b:Int} {l:Ln} (h:LnK k b l) (tag:Int):LnK k b (yg tag l)/\∀x v,xd (yg tag l) x v↔xd l x v:=by
 obtain⟨e1,e2,e3⟩:=WB tag l h.cur;refine⟨⟨by rw[e1];exact h.ids,fun p hp=>h.nn p (by rw[<- e1];exact hp),by rw[e1];exact h.w,by rw[e1,e2];exact h.lag,by rw[e2];exact h.base,by rw[e1,e2];exact h.least,by rw[e1];exact e3⟩,fun x v=>by unfold xd;rw[e1]⟩
theorem LnK.charge {k:Nat} {b:Int} {l:Ln} (h:LnK k b l) (hk:k<=1000) (hb:b<=1000000000000000000) :
 LnK (k+1) (b+(k+1:Nat)*232792560) (z8 l).2.2/\(∀x v,xd (z8 l).2.2 x v↔xd l x v) /\
 ((z8 l).2.1=14\/((z8 l).2.1=0/\∃w,xd l (z8 l).1 w)):=by
 unfold z8;rcases zB l.ps l.cur with⟨hp,hn⟩ | ⟨j,hj,hp,hid,_⟩
 · rw[if_pos (by omega)];exact⟨h.mono (by omega) (by omega),fun x v=>Iff.rfl,.inl rfl⟩
 · rw[hp,if_neg (by omega)];have l9:((j:Int)).toNat=j:=by omega
   rw[l9,getElem!_pos l.ps j hj];have iZ:=h.lag _ (List.getElem_mem hj);have Bv:=h.base;have aG:=xZ l.ps[j].w;rw[if_neg (by omega)];have iR:(onP l.ps[j]).id=l.ps[j].id/\(onP l.ps[j]).w=l.ps[j].w/\(onP l.ps[j]).v=l.ps[j].v+zF l.ps[j].w:=by
    unfold onP;split <;> exact⟨rfl,rfl,rfl⟩
   obtain⟨a,c⟩:=h.setP hj (onP l.ps[j]) iR.1 (by rw[iR.2.1];exact h.w _ (List.getElem_mem hj)) (k+1) (by omega) (by rw[iR.2.2];omega);refine⟨a,fun x v=>?_,.inr ⟨rfl,l.ps[j].w,_,List.getElem_mem hj,rfl,rfl⟩⟩;rw[c x v,iR.1,iR.2.1];unfold xd;constructor
   · rintro(⟨rfl,rfl⟩ | ⟨_,h⟩)
     · exact⟨_,List.getElem_mem hj,rfl,rfl⟩
     · exact h
   · rintro⟨p,hp,h1,h2⟩;by_cases e:x=l.ps[j].id
     · refine .inl ⟨e,?_⟩;obtain⟨i,hi,rfl⟩:=List.mem_iff_getElem.1 hp;have:=bs h.ids hi hj (h1.trans e);subst this;exact h2.symm
     · exact .inr ⟨e,p,hp,h1,h2⟩
theorem Ux (tag lag A:Int) (h:-A<=lag/\lag<=A):-A<=yy tag lag/\yy tag lag<=A:=by
 unfold yy wM wL wI;split
 · omega
 · split
   · omega
   · split
     · omega
     · split <;> omega
theorem LnK.fits {k:Nat} {b:Int} {l:Ln} (h:LnK k b l) (hk:k<=1000) (hb:b<=1000000000000000000) (hl:l.ps.length<=64):yn l:=by
 have Bv:=h.base;refine⟨hl,h.ids,by omega,fun p hp=>?_⟩;have:=h.lag p hp;have:=h.w p hp;omega
theorem VD.lt {W:World} {wb sb m:Nat} {s:Sy} {cbs:List Nat} {L:Int->Option Tr} {own:Nat->Option Own} {ow:Nat->Option OwnW} (h:VD W wb sb s m cbs L own ow):∀k,(own k≠none\/ow k≠none)->k<W.heap.size:=by
 obtain⟨⟨gb,nb,pb,mb,n,cv,D,tb,hS⟩,⟨mb2,n2,av,D2,tbs,ttb,hW⟩,hd⟩:=h;exact fun k hk=>hk.elim (hS.lt k) (hW.lt k)
end Go.Proofs.YtoiajjobecinpaaGreat
