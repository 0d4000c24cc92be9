/- The document's own system: Spawn refused; Weigh; Move. -/
import Derived.Test.YtoiajjobecinpaaGreatTM33
import Derived.Test.YtoiajjobecinpaaGreatTM34
set_option maxHeartbeats 4000000
set_option maxRecDepth 100000
namespace Go.Proofs.YtoiajjobecinpaaGreat
open Go.RowKit Go.Shelf Go.Lib Go.Proofs
set_option linter.unusedVariables false
set_option linter.unusedSimpArgs false
section
attribute [local go_sem] Oper.semAt_some
theorem YK (rb:Nat) (B:RBk) (own:Nat->Option ROwn) (r:RSy) (w m g:Int) (W:World) (h:RAt W rb B own r) (hw:zQ w=false) :
 Calls Tryz.prog 31 #[.pointer (some ⟨rb,0,none⟩),I w,.int .u16 m,I g] W fun e w'=>e=.returned (.tuple #[I 0,I 1])/\W=w':=by
 have lx:=yM w W;rw[hw] at lx;clear h;go_enter Tryz.func31,Tryz.ntmps31;go_wp2_with fail
 refine lx.mono ?_;rintro e w1 ⟨rfl,rfl⟩;go_wp2_with fail
 go_ret2
 exact⟨rfl,rfl⟩
theorem Zx (rb:Nat) (B:RBk) (own:Nat->Option ROwn) (r:RSy) (w m g:Int) (W:World) (h:RAt W rb B own r) (lw:1<=r.cores.length/\r.cores.length<=16) (hw:zQ w=true) (hm:0<=m/\m<65536) (tD:ye m r.cores.length=false) :
 Calls Tryz.prog 31 #[.pointer (some ⟨rb,0,none⟩),I w,.int .u16 m,I g] W fun e w'=>e=.returned (.tuple #[I 0,I 5])/\Below W.heap.size W w':=by
 have lx:=yM w W;rw[hw] at lx;obtain⟨N,l6⟩:∃N,r.cores.length=N:=⟨_,rfl⟩
 have lA:=wV m hm N (by omega) (by omega) W;rw[<- l6,tD] at lA;rw[l6] at lA;obtain⟨ca,cc,aQ,-⟩:=h.coreCell;have c0:=h.c0;rw[aQ,l6] at c0;clear h tD aQ lw l6;go_enter Tryz.func31,Tryz.ntmps31;go_wp2_with fail
 refine lx.mono ?_;rintro e w1 ⟨rfl,rfl⟩;go_wp2_with fail
 refine lA.mono ?_;rintro e w1 ⟨rfl,eE⟩;go_wp2_with fail
 go_ret2
 exact⟨rfl,eE⟩
theorem cP (rb:Nat) (B:RBk) (own:Nat->Option ROwn) (r:RSy) (w m g:Int) (W:World) (h:RAt W rb B own r) (lw:1<=r.cores.length/\r.cores.length<=16) (hw:zQ w=true) (hm:0<=m/\m<65536) (tD:ye m r.cores.length=true) (hg:zL r.gs g=false) :
 Calls Tryz.prog 31 #[.pointer (some ⟨rb,0,none⟩),I w,.int .u16 m,I g] W fun e w'=>e=.returned (.tuple #[I 0,I 2])/\Below W.heap.size W w':=by
 have lx:=yM w W;rw[hw] at lx;obtain⟨N,l6⟩:∃N,r.cores.length=N:=⟨_,rfl⟩
 have lA:=wV m hm N (by omega) (by omega) W;rw[<- l6,tD] at lA;rw[l6] at lA;obtain⟨ca,cc,aQ,-⟩:=h.coreCell;have c0:=h.c0;rw[aQ,l6] at c0;have pK:=lH (fun W' (hG:GrAt W' B.gb r.gs)=>qn B.gb r.gs g W' hG);have HR:=lH h;have HG:=lH hg;clear h tD aQ lw l6 hg;go_enter Tryz.func31,Tryz.ntmps31;go_wp2_with fail
 refine lx.mono ?_;rintro e w1 ⟨rfl,rfl⟩;go_wp2_with fail
 refine lA.mono ?_;rintro e w1 ⟨rfl,eE⟩;have lV:=HR.out.below eE;have c3:=lV.c3;have aB:=pK.out w1 lV.groups;rw[HG.out] at aB;clear lV lx lA c0;go_wp2_with fail
 refine aB.mono ?_;rintro e w1 ⟨rfl,rfl⟩;go_wp2_with fail
 go_ret2
 exact⟨rfl,eE⟩
theorem Zw (rb:Nat) (B:RBk) (own:Nat->Option ROwn) (r:RSy) (w m g:Int) (W:World) (h:RAt W rb B own r) (lw:1<=r.cores.length/\r.cores.length<=16) (hw:zQ w=true) (hm:0<=m/\m<65536) (tD:ye m r.cores.length=true) (hg:zL r.gs g=true) (hz:xj r.ps) (A0:ym r.ps=(0,3,r.ps)) :
 Calls Tryz.prog 31 #[.pointer (some ⟨rb,0,none⟩),I w,.int .u16 m,I g] W fun e w'=>e=.returned (.tuple #[I 0,I 3])/\RAt w' rb B own r/\RStep own own W w':=by
 have lx:=yM w W;rw[hw] at lx;obtain⟨N,l6⟩:∃N,r.cores.length=N:=⟨_,rfl⟩
 have lA:=wV m hm N (by omega) (by omega) W;rw[<- l6,tD] at lA;rw[l6] at lA;obtain⟨ca,cc,aQ,-⟩:=h.coreCell;have c0:=h.c0;rw[aQ,l6] at c0;have pK:=lH (fun W' (hG:GrAt W' B.gb r.gs)=>qn B.gb r.gs g W' hG);have Ba:=lH (fun W' (hN:NaAt W' B.nb B.tb B.ob r.ps)=>dQ B.nb B.tb B.ob r.ps W' hN hz);have MK:=lH A0;have HR:=lH h;have HG:=lH hg;clear h tD aQ lw l6 hg hz A0;go_enter Tryz.func31,Tryz.ntmps31;go_wp2_with fail
 refine lx.mono ?_;rintro e w1 ⟨rfl,rfl⟩;go_wp2_with fail
 refine lA.mono ?_;rintro e w1 ⟨rfl,eE⟩;have lV:=HR.out.below eE;have c3:=lV.c3;have aB:=pK.out w1 lV.groups;rw[HG.out] at aB;have ef:=lH eE;have HR1a:=lH lV;clear eE lV lx lA c0;go_wp2_with fail
 refine aB.mono ?_;rintro e w1 ⟨rfl,rfl⟩;have ed:=Ba.out w1 HR1a.out.names;rw[MK.out] at ed;have c2:=HR1a.out.c2;simp only at ed;go_wp2_with fail
 refine ed.mono ?_;rintro e w2 ⟨rfl,Aa,aC⟩;have nL:=lH (HR1a.out.setN Aa aC);have iy:Hid (RStep own own W w2):=lH ((RStep.below ef.out).trans (RStep.keep aC (fun k hk=>by rcases hk with rfl | rfl | rfl;rw[HR.out.onb];simp;rw[HR.out.otb];simp;rw[HR.out.oob];simp)));clear Aa aC ed aB c2 c3;go_wp2_with fail
 go_ret2
 exact⟨rfl,nL.out,iy.out⟩
theorem Zy (rb:Nat) (B:RBk) (own:Nat->Option ROwn) (r:RSy) (id w:Int) (W:World) (h:RAt W rb B own r) (aT:r.ts.length<=1000) (hp:xr r.ts id=-1) :
 Calls Tryz.prog 33 #[.pointer (some ⟨rb,0,none⟩),I id,I w] W fun e w'=>e=.returned (I 2)/\W=w':=by
 have aE:=yd rb B own r id W h aT;rw[hp] at aE;clear h hp;go_enter Tryz.func33,Tryz.ntmps33;go_wp2_with fail
 refine aE.mono ?_;rintro e w1 ⟨rfl,rfl⟩;go_wp2_with fail
 go_ret
 exact⟨rfl,rfl⟩
theorem YS (rb:Nat) (B:RBk) (own:Nat->Option ROwn) (r:RSy) (id w:Int) (k:Nat) (W:World) (h:RAt W rb B own r) (aT:r.ts.length<=1000) (hp:xr r.ts id=(k:Int)) (hw:zQ w=false) :
 Calls Tryz.prog 33 #[.pointer (some ⟨rb,0,none⟩),I id,I w] W fun e w'=>e=.returned (I 1)/\W=w':=by
 have aE:=yd rb B own r id W h aT;rw[hp] at aE;have lx:=yM w W;rw[hw] at lx;have aX:¬(k:Int)<0:=by omega
 clear h hp;go_enter Tryz.func33,Tryz.ntmps33;go_wp2_with fail
 refine aE.mono ?_;rintro e w1 ⟨rfl,rfl⟩;go_wp2_with fail
 refine lx.mono ?_;rintro e w1 ⟨rfl,rfl⟩;go_wp2_with fail
 go_ret
 exact⟨rfl,rfl⟩
theorem YT (rb:Nat) (B:RBk) (own:Nat->Option ROwn) (r:RSy) (id w:Int) (k:Nat) (t:Tk) (W:World) (h:RAt W rb B own r) (aT:r.ts.length<=1000) (hp:xr r.ts id=(k:Int)) (hk:r.ts[k]? = some t) (hw:zQ w=true) (aG:t.state≠2) :
 Calls Tryz.prog 33 #[.pointer (some ⟨rb,0,none⟩),I id,I w] W fun e w'=>e=.returned (I 0)/\RAt w' rb B own ⟨r.cores,r.ts.set k (wTk t w),r.gs,r.acc,r.ps⟩/\RStep own own W w':=by
 have aE:=yd rb B own r id W h aT;rw[hp] at aE;have lx:=yM w W;rw[hw] at lx;obtain⟨g,n,c,hv,aw,ho,hn,k0,k1,k2,k3,k4,k5,k6⟩:=h.row_ hk;have lX:=h.taskCell hv (f:=1) (t':=wTk t w) (u:=I w) hk (by omega) rfl;have f1:=h.freeT hv (k*7+1);have Hy:Touch (fun k=>own k≠none) W (W.setCell ⟨g,k*7+1,none⟩ (I w)):=(Touch.refl _ W).setCell (t:=none) (.inl (by rw[ho];simp)) _;rw[<- hn] at hv aw;have c1:=h.c1;rw[hv] at c1;have aX:0<=(k:Int):=by omega
 have aS:(k:Int)<(n:Int):=by omega
 have HF:=lH lX;have HT:=lH Hy;obtain⟨tid,tw,tg,tc,tst,tm,tl⟩:=t;simp only at k0 k1 k2 k3 k4 k5 k6 aG HF HT⊢;clear h hk hv hn aw lX Hy hp;go_enter Tryz.func33,Tryz.ntmps33;go_wp2_with fail
 refine aE.mono ?_;rintro e w1 ⟨rfl,rfl⟩;go_wp2_with fail
 refine lx.mono ?_;rintro e w1 ⟨rfl,rfl⟩;go_wp2_with fail
 go_ret
 exact⟨rfl,HF.out,fun _ hk=>.inl hk,HT.out⟩
theorem Vj (rb:Nat) (B:RBk) (own:Nat->Option ROwn) (r:RSy) (id w:Int) (k:Nat) (t:Tk) (i:Nat) (ti:Int) (li:Ln) (W:World) (h:RAt W rb B own r) (aT:r.ts.length<=1000) (hp:xr r.ts id=(k:Int)) (hk:r.ts[k]? = some t) (hw:zQ w=true) (aG:t.state=2)
 (hi:t.core=(i:Int)) (eB:i<r.cores.length) (lO:r.cores[i]! = (ti,li)) (lm:li.ps.length<=64) (hd:∀p∈li.ps,IntKind.i64.wrap (p.v+4*zF w)=p.v+4*zF w) (lp:¬yh li.ps id<0) :
 Calls Tryz.prog 33 #[.pointer (some ⟨rb,0,none⟩),I id,I w] W fun e w'=>e=.returned (I 0)/\∃B' own',RAt w' rb B' own' ⟨r.cores.set i (ti,(yx li id w).2),r.ts.set k (wTk t w),r.gs,r.acc,r.ps⟩/\RStep own own' W w':=by
 have aE:=yd rb B own r id W h aT;rw[hp] at aE;have lx:=yM w W;rw[hw] at lx;obtain⟨g,n,c,hv,aw,ho,hn,k0,k1,k2,k3,k4,k5,k6⟩:=h.row_ hk;have HV:=lH hv;have Da:=(h.q i eB).below (Below.refl _ W).drew;rw[lO] at Da;have LY:=Y9 B.qbs[i]! (B.qv i) ti li id w W.drew Da lm hd lp hw;obtain⟨ca,cc,aQ,mA⟩:=h.coreCell;obtain⟨cg,rfl,nD,mg,oW⟩:=mA i eB;obtain⟨N,l6⟩:∃N,r.cores.length=N:=⟨_,rfl⟩
 have c0:=h.c0;rw[aQ,l6] at c0;have oP:=lH (h.oq i eB);have Lr:=lH (h.oqr i eB);have G3:=lH ho;have oa:=lH eB;have pz:=lH h;have HK:=lH hk;have sf:0<=(i:Int):=by omega
 have GA:(i:Int)<(N:Int):=by omega
 rw[<- hn] at hv aw;have c1:=h.c1;rw[hv] at c1;have aX:0<=(k:Int):=by omega
 have aS:(k:Int)<(n:Int):=by omega
 obtain⟨qi,pH⟩:∃x,B.qbs[i]! = x:=⟨_,rfl⟩
 rw[pH] at LY oW oP;have sp:=lH pH;obtain⟨⟨er,l'⟩,om⟩:∃x,yx li id w=x:=⟨_,rfl⟩
 rw[om] at LY⊢;have eL:=h.lt g (by rw[ho];simp);have Cw:=lH (And.intro eL (h.lt rb (by rw[h.osys];simp)));obtain⟨tid,tw,tg,tc,tst,tm,tl⟩:=t;simp only at k0 k1 k2 k3 k4 k5 k6 aG hi⊢;subst aG hi;clear h hk hv hn aw hp aQ mA nD mg l6 eB lO lm hd lp pH om ho eL Da;go_enter Tryz.func33,Tryz.ntmps33;go_wp2_with fail
 refine aE.mono ?_;rintro e w1 ⟨rfl,rfl⟩;go_wp2_with fail
 refine lx.mono ?_;rintro e w1 ⟨rfl,rfl⟩;go_wp2_with fail
 go_still_tail 16,(by kernel_rfl)
 change wpList _ _ _ _ _ (World.drew _);go_wp2_with fail
 refine LY.mono ?_;rintro e w9 ⟨rfl,rh,iE⟩;have mO:=(pz.out.below (Below.refl _ W).drew).setQ oa.out (by rw[sp.out];exact rh) (iE.wider (fun k hk=>hk.imp (fun e=>by rw[sp.out];exact e) (fun x=>x))) (fun j hj=>.inl hj);have sH:RStep own (fun k=>if (B.qv i).ownBlock=some k then some (.qrow i) else own k) W w9:=(RStep.below (Below.refl _ W).drew).trans (RStep.more (x:=.qrow i) iE (fun k hk=>by
  rcases hk with rfl | hk
  · rw[oP.out];simp
  · rw[Lr.out k hk];simp) (fun j hj=>.inl (by rw[Lr.out j hj];simp)))
 have em:∀k,k<W.heap.size->k≠qi->(B.qv i).ownBlock≠some k->w9.heap[k]? = W.heap[k]?:=fun k hk h1 h2=>iE.block k hk (fun hh=>hh.elim h1 h2);have Gy:g≠qi/\(B.qv i).ownBlock≠some g:=⟨fun e=>by have:=G3.out;rw[e,oP.out] at this;simp at this,fun e=>by have:=Lr.out g e;rw[G3.out] at this;simp at this⟩
 have N2:rb≠qi/\(B.qv i).ownBlock≠some rb:=⟨fun e=>by have:=pz.out.osys;rw[e,oP.out] at this;simp at this,fun e=>by have:=Lr.out rb e;rw[pz.out.osys] at this;simp at this⟩
 have k1':=(World.cell?_of_block (a:=⟨g,k*7+1,none⟩) (em g Cw.out.1 Gy.1 Gy.2)).trans k1;have c1':=(World.cell?_of_block (a:=⟨rb,1,none⟩) (em rb Cw.out.2 N2.1 N2.2)).trans c1;have f1:=mO.freeT HV.out (k*7+1);have lX:=mO.taskCell HV.out (f:=1) (t':=wTk ⟨tid,tw,tg,i,2,tm,tl⟩ w) (u:=I w) HK.out (by omega) rfl;have JK:=sH.trans (RStep.keep (((Touch.refl (fun k=>k=g) w9).setCell (t:=none) (c:=g) (i:=k*7+1) (.inl rfl) (I w))) (fun k hk=>by rw[hk,if_neg Gy.2,G3.out];simp))
 have au:=lH (And.intro lX JK);clear mO sH em Gy N2 lX JK rh iE LY k0 k1 k2 k3 k4 k5 k6 c1 c0 oW;go_wp2_with fail
 go_ret
 exact⟨rfl,_,_,au.out.1,au.out.2⟩
end
end Go.Proofs.YtoiajjobecinpaaGreat
