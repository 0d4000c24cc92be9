/- The document's own system: Act: sleep. The document's own system: Move, Bind. The document's own sys -/
import Derived.Test.YtoiajjobecinpaaGreatTM36
set_option maxHeartbeats 4000000
set_option maxRecDepth 100000
namespace Go.Proofs.YtoiajjobecinpaaGreat
open Go.RowKit Go.Shelf Go.Lib Go.Proofs
set_option linter.unusedVariables false
set_option linter.unusedSimpArgs false
section
attribute [local go_sem] Oper.semAt_some
theorem gB (rb:Nat) (B:RBk) (own:Nat->Option ROwn) (r:RSy) (id:Int) (k:Nat) (t:Tk) (W:World) (h:RAt W rb B own r) (aT:r.ts.length<=64) (hp:xr r.ts id=(k:Int)) (hk:r.ts[k]? = some t) (aG:t.state=5) :
 Calls Tryz.prog 32 #[.pointer (some ⟨rb,0,none⟩),I 4,I id] W fun e w'=>e=.returned (I 0)/\RAt w' rb B own ⟨r.cores,r.ts.set k (stT t 4),r.gs,r.acc,r.ps⟩/\RStep own own W w':=by
 have aE:=yd rb B own r id W h (by omega);rw[hp] at aE;obtain⟨g,n,c,hv,aw,ho,hn,k0,k1,k2,k3,k4,k5,k6⟩:=h.row_ hk;rw[<- hn] at hv aw;have c1:=h.c1;rw[hv] at c1;have aX:0<=(k:Int):=by omega
 have aS:(k:Int)<(n:Int):=by omega
 have iB:=fun W'=>wy 5 4 (.inr (.inr (.inr rfl))) (.inr (.inl rfl)) W';rw[show nxt 5 4=(4,0) by simp[nxt]] at iB;obtain⟨ey,eE,aI⟩:=wl W t;obtain⟨⟨b0,b1,b2,b3,b4,b5,b6⟩,bf⟩:=ey.cells;have pz:=lH h;have HK:=lH hk;obtain⟨tid,tw,tg,tc,tst,tm,tl⟩:=t;simp only at k0 k1 k2 k3 k4 k5 k6 b0 b1 b2 b3 b4 b5 b6 aG ey eE aI⊢;subst aG;have ef:=lH eE;have nB:=lH ey;have nc:=lH aI;have Ad:=h.lt;have sP:=lH Ad;clear h hk hv hn aw hp ho eE ey aI Ad;unfold xb at b0 b1 b2 b3 b4 b5 b6 bf;go_enter Tryz.func32,Tryz.ntmps32;go_wp2_with fail
 refine aE.mono ?_;rintro e w1 ⟨rfl,rfl⟩;go_wp2_with fail
 refine(iB _).mono ?_;rintro e w1 ⟨rfl,rfl⟩;go_wp2_with fail
 change Code.wp _ _ _ _ (xb W ⟨tid,tw,tg,tc,4,tm,tl⟩);obtain⟨hp,CQ,-⟩:=wl W ⟨tid,tw,tg,tc,4,tm,tl⟩;have ay:∀k,own k≠none->k≠W.heap.size:=fun k hk e=>by have:=sP.out k hk;omega
 have mW:=pz.out.below CQ;have rS:RStep own own W (xb W ⟨tid,tw,tg,tc,4,tm,tl⟩):=RStep.below CQ;clear b0 b1 b2 b3 b4 b5 b6 bf CQ;generalize xb W ⟨tid,tw,tg,tc,4,tm,tl⟩=W6 at hp mW rS⊢;obtain⟨⟨z0,z1,z2,z3,z4,z5,z6⟩,-⟩:=hp.cells;simp only at z0 z1 z2 z3 z4 z5 z6;obtain⟨g',n',c',iC,iJ,nz,oo,r0,r1,r2,r3,r4,r5,r6⟩:=mW.row_ HK.out;have n9:=iC;rw[<- oo] at iC;try simp only at iJ oo
 have c1':=mW.c1;rw[iC] at c1';have lz:(k:Int)<(n':Int):=by omega
 have fr:=mW.freeT n9;have q0:=fr (k*7);have q1:=fr (k*7+1);have q2:=fr (k*7+2);have q3:=fr (k*7+3);have q4:=fr (k*7+4);have q5:=fr (k*7+5);have q6:=fr (k*7+6);have mj:=(mW.taskRow n9 ⟨tid,tw,tg,tc,4,tm,tl⟩ HK.out).below (Below.refl _ _).drew;have rm:=RStep.trans rS (RStep.keep (own:=own) (vQ (F:=fun k=>k=g') (g:=g') (k:=k) (t:=⟨tid,tw,tg,tc,4,tm,tl⟩) (Touch.refl _ W6) (.inl rfl)).drew (fun k hk=>by rw[hk,nz];simp));have au:=lH (And.intro mj rm);clear mW rS hp fr n9 iC oo iJ nz ay aE iB k0 k1 k2 k3 k4 k5 k6 c1 mj rm;try simp only at r0 r1 r2 r3 r4 r5 r6
 go_still_tail 7,(by kernel_rfl)
 change wpList _ _ _ _ _ (World.drew _);go_wp2_with fail
 change bodyPost _ _ _ _ _ (World.drew (jo W6 g' k ⟨tid,tw,tg,tc,4,tm,tl⟩));generalize World.drew (jo W6 g' k ⟨tid,tw,tg,tc,4,tm,tl⟩)=Wf at au⊢;go_ret
 exact⟨rfl,au.out.1,au.out.2⟩
theorem jM (rb:Nat) (B:RBk) (own:Nat->Option ROwn) (r:RSy) (id:Int) (k:Nat) (t:Tk) (W:World) (h:RAt W rb B own r) (aT:r.ts.length<=64) (hp:xr r.ts id=(k:Int)) (hk:r.ts[k]? = some t) (aG:t.state=2) (i:Nat) (ti:Int) (li:Ln) (hi:t.core=(i:Int)) (hid:t.id=id) (eB:i<r.cores.length) (lO:r.cores[i]! = (ti,li)) (lm:li.ps.length<=64) (hw:∀p∈li.ps,IntKind.i64.wrap (li.base-p.v)=li.base-p.v) (lp:¬yh li.ps id<0) :
 Calls Tryz.prog 32 #[.pointer (some ⟨rb,0,none⟩),I 4,I id] W fun e w'=>e=.returned (I 0)/\∃B' own',RAt w' rb B' own' ⟨r.cores.set i (ti,(zA li id).2.2),r.ts.set k (stT (wi t (zA li id).1) 4),r.gs,r.acc,r.ps⟩/\RStep own own' W w':=by
 have aE:=yd rb B own r id W h (by omega);rw[hp] at aE;obtain⟨g,n,c,hv,aw,ho,hn,k0,k1,k2,k3,k4,k5,k6⟩:=h.row_ hk;rw[<- hn] at hv aw;have c1:=h.c1;rw[hv] at c1;have aX:0<=(k:Int):=by omega
 have aS:(k:Int)<(n:Int):=by omega
 have iB:=fun W'=>wy 2 4 (.inr (.inl rfl)) (.inr (.inl rfl)) W';rw[show nxt 2 4=(4,0) by simp[nxt]] at iB;obtain⟨ey,eE,aI⟩:=wl W t;obtain⟨⟨b0,b1,b2,b3,b4,b5,b6⟩,bf⟩:=ey.cells;have ma:=fun W' (hq:QuAt W' B.qbs[i]! (B.qv i) ti li)=>uH B.qbs[i]! (B.qv i) ti li id W' hq lm hw lp;obtain⟨ca,cc,aQ,mA⟩:=h.coreCell;obtain⟨cg,rfl,nD,mg,oW⟩:=mA i eB;obtain⟨N,hN⟩:∃N,r.cores.length=N:=⟨_,rfl⟩
 have c0:=h.c0;rw[aQ,hN] at c0;have eF:=h.lt rb (by rw[h.osys];simp);have po:=h.oq i eB;have nO:=h.lt _ (by rw[po];simp);have pJ:Hid (rb≠B.qbs[i]!/\cg≠B.qbs[i]!):=lH (by
  refine⟨?_,?_⟩ <;> intro e
  · have:=h.osys;rw[e,po] at this;simp at this
  · rw[e,po] at mg;simp at mg)
 have io:=lH (And.intro eF (And.intro nD nO));have oP:=lH po;have oa:=lH eB;have L6:=lH lO;have sf:0<=(i:Int):=by omega
 have GA:(i:Int)<(N:Int):=by omega
 obtain⟨⟨lag,er,l'⟩,om⟩:∃x,zA li id=x:=⟨_,rfl⟩
 rw[om] at ma⊢;have c0':=(eE.cell (p:=⟨rb,0,none⟩) eF).trans c0;have gi':=(eE.cell (p:=⟨cg,i,none⟩) nD).trans oW;obtain⟨qi,pH⟩:∃x,B.qbs[i]! = x:=⟨_,rfl⟩
 rw[pH] at ma gi' pJ oP io;have sp:=lH pH;have pz:=lH h;have HK:=lH hk;obtain⟨tid,tw,tg,tc,tst,tm,tl⟩:=t;simp only at k0 k1 k2 k3 k4 k5 k6 b0 b1 b2 b3 b4 b5 b6 aG hi ey eE aI ma c0' gi'⊢;subst aG hi;have Cc:=lH hid;simp only at hid;have ef:=lH eE;have nB:=lH ey;have nc:=lH aI;have Ad:=h.lt;have sP:=lH Ad;clear h hk hv hn aw hp ho eE ey aI Ad hid eB lO lm hw lp aQ mA nD mg oW hN c0 eF po nO om pH;unfold xb at b0 b1 b2 b3 b4 b5 b6 bf c0' gi';go_enter Tryz.func32,Tryz.ntmps32;go_wp2_with fail
 refine aE.mono ?_;rintro e w1 ⟨rfl,rfl⟩;go_wp2_with fail
 refine(iB _).mono ?_;rintro e w1 ⟨rfl,rfl⟩;go_wp2_with fail
 obtain⟨W1,lu⟩:∃x,xb W ⟨tid,tw,tg,i,2,tm,tl⟩=x:=⟨_,rfl⟩
 rw[lu] at ef nB nc;unfold xb at lu;simp only at lu;rw[lu] at b0 b1 b2 b3 b4 b5 b6 bf c0' gi'⊢;clear lu;have mn:=ma W1.drew (by
  have:=(pz.out.below ef.out.drew).q i oa.out;rw[L6.out,sp.out] at this;exact this)
 have lr:QcS rb cg i qi W.heap.size (.slice (some ⟨cg,0,none⟩) N cc) tid i W1.drew:=⟨c0',gi',b0,b3⟩
 have AR:=lH lr;have rD:Hid (∀w9:World,Touch (fun k=>k=qi) W1.drew w9->QcS rb cg i qi W.heap.size (.slice (some ⟨cg,0,none⟩) N cc) tid i w9/\QcS rb cg i qi W.heap.size (.slice (some ⟨cg,0,none⟩) N cc) tid i (w9.setCell ⟨W.heap.size,6,none⟩ (I lag))/\w9.heap[W.heap.size]? = W1.heap[W.heap.size]?):=lH (fun w9 hT=>by
  obtain⟨d1,d2⟩:=pJ.out;obtain⟨l1,l2,l3⟩:=io.out;have hz:=nc.out;have e:∀k,k<W1.heap.size->k≠qi->w9.heap[k]? = W1.heap[k]?:=fun k hk hn=>hT.block k hk hn;obtain⟨s1,s2,s3,s4⟩:=AR.out;have t1:=(World.cell?_of_block (a:=⟨rb,0,none⟩) (e rb (by omega) d1)).trans s1;have t2:=(World.cell?_of_block (a:=⟨cg,i,none⟩) (e cg (by omega) d2)).trans s2;have t3:=(World.cell?_of_block (a:=⟨W.heap.size,0,none⟩) (e W.heap.size (by omega) (by omega))).trans s3;have t4:=(World.cell?_of_block (a:=⟨W.heap.size,3,none⟩) (e W.heap.size (by omega) (by omega))).trans s4;exact⟨⟨t1,t2,t3,t4⟩,⟨by rw[za _ (by first | (simp;done) | (simp;omega))];exact t1,by rw[za _ (by first | (simp;done) | (simp;omega))];exact t2,by rw[za _ (by simp)];exact t3,by rw[za _ (by simp)];exact t4⟩,e W.heap.size (by omega) (by omega)⟩)
 clear ma;go_region_held3 (QcS rb cg i qi W.heap.size (.slice (some ⟨cg,0,none⟩) N cc) tid i) (first | (with_reducible exact lr) | (with_reducible exact eo) | (with_reducible exact r8)) (first | (go_at_call 73;refine mn.mono ?_;rintro e w9 ⟨rfl,v9,rh,iE,nK⟩;obtain⟨eo,r8,eN⟩:=rD.out w9 iE;have tz:=nB.out.same eN;have x6:=tz.cells.1.2.2.2.2.2.2;have xf:=tz.cells.2 6;simp only at x6) | fail)
 have mO:=(pz.out.below ef.out.drew).setQ oa.out (by rw[sp.out];exact rh) (iE.wider (fun k hk=>.inl (by rw[sp.out];exact hk))) (fun j hj=>.inr (nK j hj));have sH:RStep own (fun k=>if v9.ownBlock=some k then some (.qrow i) else own k) W w9:=(RStep.below ef.out.drew).trans (RStep.more (x:=.qrow i) iE (fun k hk=>by rw[hk,oP.out];simp) (fun j hj=>.inr (nK j hj)))
 have ay:∀k,(if v9.ownBlock=some k then some (ROwn.qrow i) else own k)≠none->k≠W.heap.size:=fun k hk e=>by
  by_cases e2:v9.ownBlock=some k
  · have:=nK k e2;have e3:W1.drew.heap.size=W1.heap.size:=rfl;have:=nc.out;omega
  · rw[if_neg e2] at hk;have:=sP.out k hk;omega
 have i9:=tz.lag_ lag;simp only[wi] at i9;obtain⟨⟨y0,y1,y2,y3,y4,y5,y6⟩,yf⟩:=i9.cells;simp only at y0 y1 y2 y3 y4 y5 y6;have y4f:=yf 4;have CL:=mO.same (W':=w9.setCell ⟨W.heap.size,6,none⟩ (I lag)) (by simp) (fun k hk=>Below.heap_setCell _ _ _ _ (ay k hk));have Dg:RStep own (fun k=>if v9.ownBlock=some k then some (.qrow i) else own k) W (w9.setCell ⟨W.heap.size,6,none⟩ (I lag)):=⟨sH.new,sH.touch.setCell (t:=none) (.inr (Nat.le_refl _)) _⟩
 clear eo r8 eN tz x6 xf mO sH rh iE lr mn c0' gi' b0 b1 b2 b3 b4 b5 b6 bf yf;generalize w9.setCell ⟨W.heap.size,6,none⟩ (I lag)=W9 at y0 y1 y2 y3 y4 y5 y6 y4f i9 CL Dg⊢;generalize eU:(fun k=>if v9.ownBlock=some k then some (ROwn.qrow i) else own k)=own' at CL Dg;have IQ:∀k,own' k≠none->k≠W.heap.size:=fun k hk=>ay k (by rw[<- eU] at hk;exact hk);have Ey:=lH i9;have mM:=lH CL;have ms:=lH Dg;have tV:=lH IQ;clear ay IQ i9 CL Dg eU nK;go_wp2_with fail
 have hp:=Ey.out.state 4;simp only[stT] at hp;have mW:=mM.out.same (W':=W9.setCell ⟨W.heap.size,4,none⟩ (I 4)) (by simp) (fun k hk=>Below.heap_setCell _ _ _ _ (tV.out k hk));have rS:RStep own own' W (W9.setCell ⟨W.heap.size,4,none⟩ (I 4)):=⟨ms.out.new,ms.out.touch.setCell (t:=none) (.inr (Nat.le_refl _)) _⟩
 clear y0 y1 y2 y3 y4 y5 y6 y4f;generalize W9.setCell ⟨W.heap.size,4,none⟩ (I 4)=W6 at hp mW rS⊢;obtain⟨⟨z0,z1,z2,z3,z4,z5,z6⟩,-⟩:=hp.cells;simp only at z0 z1 z2 z3 z4 z5 z6;obtain⟨g',n',c',iC,iJ,nz,oo,r0,r1,r2,r3,r4,r5,r6⟩:=mW.row_ HK.out;have n9:=iC;rw[<- oo] at iC;try simp only at iJ oo
 have c1':=mW.c1;rw[iC] at c1';have lz:(k:Int)<(n':Int):=by omega
 have fr:=mW.freeT n9;have q0:=fr (k*7);have q1:=fr (k*7+1);have q2:=fr (k*7+2);have q3:=fr (k*7+3);have q4:=fr (k*7+4);have q5:=fr (k*7+5);have q6:=fr (k*7+6);have mj:=(mW.taskRow n9 ⟨tid,tw,tg,i,4,tm,lag⟩ HK.out).below (Below.refl _ _).drew;have rm:=RStep.trans rS (RStep.keep (own:=own') (vQ (F:=fun k=>k=g') (g:=g') (k:=k) (t:=⟨tid,tw,tg,i,4,tm,lag⟩) (Touch.refl _ W6) (.inl rfl)).drew (fun k hk=>by rw[hk,nz];simp));have au:=lH (And.intro mj rm);clear mW rS hp fr n9 iC oo iJ nz aE iB k0 k1 k2 k3 k4 k5 k6 c1 mj rm;try simp only at r0 r1 r2 r3 r4 r5 r6
 go_still_tail 7,(by kernel_rfl)
 change wpList _ _ _ _ _ (World.drew _);go_wp2_with fail
 change bodyPost _ _ _ _ _ (World.drew (jo W6 g' k ⟨tid,tw,tg,i,4,tm,lag⟩));generalize World.drew (jo W6 g' k ⟨tid,tw,tg,i,4,tm,lag⟩)=Wf at au⊢;go_ret
 exact⟨rfl,_,_,au.out.1,au.out.2⟩
theorem YI (rb:Nat) (B:RBk) (own:Nat->Option ROwn) (r:RSy) (id z:Int) (W:World) (h:RAt W rb B own r) (aT:r.ts.length<=1000) (hp:xr r.ts id=-1) :
 Calls Tryz.prog 35 #[.pointer (some ⟨rb,0,none⟩),I id,I z] W fun e w'=>e=.returned (I 2)/\W=w':=by
 have aE:=yd rb B own r id W h aT;rw[hp] at aE;clear h hp;go_enter Tryz.func35,Tryz.ntmps35;go_wp2_with fail
 refine aE.mono ?_;rintro e w1 ⟨rfl,rfl⟩;go_wp2_with fail
 go_ret
 exact⟨rfl,rfl⟩
theorem WV (rb:Nat) (B:RBk) (own:Nat->Option ROwn) (r:RSy) (id z:Int) (k:Nat) (t:Tk) (W:World) (h:RAt W rb B own r) (aT:r.ts.length<=1000) (hp:xr r.ts id=(k:Int)) (hk:r.ts[k]? = some t) (h2:t.state≠2) (h5:t.state≠5) :
 Calls Tryz.prog 35 #[.pointer (some ⟨rb,0,none⟩),I id,I z] W fun e w'=>e=.returned (I 4)/\Below W.heap.size W w':=by
 have aE:=yd rb B own r id W h aT;rw[hp] at aE;obtain⟨g,n,c,hv,aw,ho,hn,k0,k1,k2,k3,k4,k5,k6⟩:=h.row_ hk;rw[<- hn] at hv aw;have c1:=h.c1;rw[hv] at c1;have aX:0<=(k:Int):=by omega
 have aS:(k:Int)<(n:Int):=by omega
 obtain⟨tid,tw,tg,tc,tst,tm,tl⟩:=t;simp only at k0 k1 k2 k3 k4 k5 k6 h2 h5;have e2:(tst != 2)=true:=by simpa using h2
 have e5:(tst != 5)=true:=by simpa using h5
 clear h hk hv hn aw hp ho;go_enter Tryz.func35,Tryz.ntmps35;go_wp2_with fail
 refine aE.mono ?_;rintro e w1 ⟨rfl,rfl⟩;go_wp2_with fail
 go_ret
 exact⟨rfl,(Below.refl _ _).alloc (Nat.le_refl _) _⟩
theorem YH (rb:Nat) (B:RBk) (own:Nat->Option ROwn) (r:RSy) (id z:Int) (k:Nat) (t:Tk) (W:World) (h:RAt W rb B own r) (aT:r.ts.length<=1000) (hp:xr r.ts id=(k:Int)) (hk:r.ts[k]? = some t) (h2:t.state=2\/t.state=5) (hm:0<=t.mask/\t.mask<65536) (hh:zW t.mask z=false) :
 Calls Tryz.prog 35 #[.pointer (some ⟨rb,0,none⟩),I id,I z] W fun e w'=>e=.returned (I 5)/\Below W.heap.size W w':=by
 have aE:=yd rb B own r id W h aT;rw[hp] at aE;obtain⟨g,n,c,hv,aw,ho,hn,k0,k1,k2,k3,k4,k5,k6⟩:=h.row_ hk;rw[<- hn] at hv aw;have c1:=h.c1;rw[hv] at c1;have aX:0<=(k:Int):=by omega
 have aS:(k:Int)<(n:Int):=by omega
 obtain⟨m1,m2⟩:=hm;by_cases z0:z<0
 · obtain⟨tid,tw,tg,tc,tst,tm,tl⟩:=t;simp only at k0 k1 k2 k3 k4 k5 k6 h2;clear h hk hv hn aw hp ho hh m1 m2;rcases h2 with rfl | rfl;all_goals
    go_enter Tryz.func35,Tryz.ntmps35;go_wp2_with fail
    refine aE.mono ?_;rintro e w1 ⟨rfl,rfl⟩;go_wp2_with fail
    go_ret
    exact⟨rfl,(Below.refl _ _).alloc (Nat.le_refl _) _⟩
 · by_cases z15:15<z
   · obtain⟨tid,tw,tg,tc,tst,tm,tl⟩:=t;simp only at k0 k1 k2 k3 k4 k5 k6 h2;clear h hk hv hn aw hp ho hh m1 m2;rcases h2 with rfl | rfl;all_goals
      go_enter Tryz.func35,Tryz.ntmps35;go_wp2_with fail
      refine aE.mono ?_;rintro e w1 ⟨rfl,rfl⟩;go_wp2_with fail
      go_ret
      exact⟨rfl,(Below.refl _ _).alloc (Nat.le_refl _) _⟩
   · obtain⟨j,rfl⟩:=Int.eq_ofNat_of_zero_le (show 0<=z by omega);have hj:j<16:=by omega
     have rN:=wC j hj;have eX:=ul t.mask ⟨m1,m2⟩ j hj;rw[hh] at eX;have oh:0<=(j:Int):=by omega
     obtain⟨tid,tw,tg,tc,tst,tm,tl⟩:=t;simp only at k0 k1 k2 k3 k4 k5 k6 h2 m1 m2 eX;clear h hk hv hn aw hp ho hh;rcases h2 with rfl | rfl;all_goals
      go_enter Tryz.func35,Tryz.ntmps35;go_wp2_with fail
      refine aE.mono ?_;rintro e w1 ⟨rfl,rfl⟩;go_wp2_with fail
      go_ret
      exact⟨rfl,(Below.refl _ _).alloc (Nat.le_refl _) _⟩
def fR (rb:Nat) (own:Nat->Option ROwn) (x:Int) (r':RSy) (W:World) (e:Ending) (w':World):Prop:=
 e=.returned (I x)/\∃B' own',RAt w' rb B' own' r'/\RStep own own' W w'
theorem fR.from {rb:Nat} {own:Nat->Option ROwn} {x:Int} {r':RSy} {W W1:World} {e:Ending} {w':World} (h:fR rb own x r' W1 e w') (hs:RStep own own W W1):fR rb own x r' W e w':=by
 obtain⟨he,B',own',hR,hS⟩:=h;exact⟨he,B',own',hR,hs.trans hS⟩
theorem Zv (rb:Nat) (B:RBk) (own:Nat->Option ROwn) (r:RSy) (id:Int) (k j:Nat) (t:Tk) (x:Int) (r':RSy) (W:World) (h:RAt W rb B own r) (aT:r.ts.length<=1000) (hp:xr r.ts id=(k:Int)) (hk:r.ts[k]? = some t) (h2:t.state=2\/t.state=5) (hm:0<=t.mask/\t.mask<65536) (hj:j<16) (hh:zW t.mask (j:Int)=true)
 (ie:∀W',RAt W' rb B own r->Calls Tryz.prog 76 #[.pointer (some ⟨rb,0,none⟩),I k,I j] W' (fR rb own x r' W')) :
 Calls Tryz.prog 35 #[.pointer (some ⟨rb,0,none⟩),I id,I j] W (fR rb own x r' W):=by
 have aE:=yd rb B own r id W h aT;rw[hp] at aE;obtain⟨g,n,c,hv,aw,ho,hn,k0,k1,k2,k3,k4,k5,k6⟩:=h.row_ hk;rw[<- hn] at hv aw;have c1:=h.c1;rw[hv] at c1;have aX:0<=(k:Int):=by omega
 have aS:(k:Int)<(n:Int):=by omega
 obtain⟨m1,m2⟩:=hm;have rN:=wC j hj;have eX:=ul t.mask ⟨m1,m2⟩ j hj;rw[hh] at eX;have oh:¬(j:Int)<0:=by omega
 have DX:¬(15:Int)<(j:Int):=by omega
 have eE:Below W.heap.size W (W.alloc (.cells #[I t.id,I t.w,I t.group,I t.core,I t.state,.int .u16 t.mask,I t.lag] 62)):=(Below.refl _ _).alloc (Nat.le_refl _) _;have rs:=ie _ (h.below eE);have HS:=lH (RStep.below (own:=own) eE);obtain⟨tid,tw,tg,tc,tst,tm,tl⟩:=t;simp only at k0 k1 k2 k3 k4 k5 k6 h2 m1 m2 eX rs HS;clear h hk hv hn aw hp ho hh ie eE;rcases h2 with rfl | rfl;all_goals
  go_enter Tryz.func35,Tryz.ntmps35;go_wp2_with fail
  refine aE.mono ?_;rintro e w1 ⟨rfl,rfl⟩;go_wp2_with fail
  refine rs.mono ?_;rintro e w5 h5;have MN:=h5;obtain⟨rfl,-⟩:=MN;have H5:=lH (h5.from HS.out);clear h5 rs;go_wp2_with fail
  go_ret
  exact H5.out
theorem YC (rb:Nat) (B:RBk) (own:Nat->Option ROwn) (r:RSy) (id m:Int) (W:World) (h:RAt W rb B own r) (aT:r.ts.length<=1000) (hp:xr r.ts id=-1) :
 Calls Tryz.prog 34 #[.pointer (some ⟨rb,0,none⟩),I id,.int .u16 m] W fun e w'=>e=.returned (I 2)/\W=w':=by
 have aE:=yd rb B own r id W h aT;rw[hp] at aE;clear h hp;go_enter Tryz.func34,Tryz.ntmps34;go_wp2_with fail
 refine aE.mono ?_;rintro e w1 ⟨rfl,rfl⟩;go_wp2_with fail
 go_ret
 exact⟨rfl,rfl⟩
theorem WK (rb:Nat) (B:RBk) (own:Nat->Option ROwn) (r:RSy) (id m:Int) (k:Nat) (W:World) (h:RAt W rb B own r) (aT:r.ts.length<=1000) (hp:xr r.ts id=(k:Int)) (lw:1<=r.cores.length/\r.cores.length<=16) (hm:0<=m/\m<65536) (hg:ye m r.cores.length=false) :
 Calls Tryz.prog 34 #[.pointer (some ⟨rb,0,none⟩),I id,.int .u16 m] W fun e w'=>e=.returned (I 5)/\Below W.heap.size W w':=by
 have aE:=yd rb B own r id W h aT;rw[hp] at aE;obtain⟨N,l6⟩:∃N,r.cores.length=N:=⟨_,rfl⟩
 have lA:=wV m hm N (by omega) (by omega) W;rw[<- l6,hg] at lA;rw[l6] at lA;obtain⟨ca,cc,aQ,-⟩:=h.coreCell;have c0:=h.c0;rw[aQ,l6] at c0;have aX:¬(k:Int)<0:=by omega
 clear h hp hg aQ lw l6;go_enter Tryz.func34,Tryz.ntmps34;go_wp2_with fail
 refine aE.mono ?_;rintro e w1 ⟨rfl,rfl⟩;go_wp2_with fail
 refine lA.mono ?_;rintro e w1 ⟨rfl,eE⟩;go_wp2_with fail
 go_ret
 exact⟨rfl,eE⟩
theorem YD (rb:Nat) (B:RBk) (own:Nat->Option ROwn) (r:RSy) (id m:Int) (k:Nat) (t:Tk) (W:World) (h:RAt W rb B own r) (aT:r.ts.length<=1000) (hp:xr r.ts id=(k:Int)) (hk:r.ts[k]? = some t) (lw:1<=r.cores.length/\r.cores.length<=16) (hm:0<=m/\m<65536) (hg:ye m r.cores.length=true)
 (hs:(t.state≠2/\t.state≠5)\/((t.state=2\/t.state=5)/\zW m t.core=true/\∃c:Nat,t.core=(c:Int)/\c<16)) :
 Calls Tryz.prog 34 #[.pointer (some ⟨rb,0,none⟩),I id,.int .u16 m] W (fR rb own 0 ⟨r.cores,r.ts.set k (zI t m),r.gs,r.acc,r.ps⟩ W):=by
 have aE:=yd rb B own r id W h aT;rw[hp] at aE;obtain⟨N,l6⟩:∃N,r.cores.length=N:=⟨_,rfl⟩
 have lA:=wV m hm N (by omega) (by omega) W;rw[<- l6,hg] at lA;rw[l6] at lA;obtain⟨ca,cc,aQ,-⟩:=h.coreCell;have c0:=h.c0;rw[aQ,l6] at c0;have HR:=lH h;have HK:=lH hk;have tF:¬(k:Int)<0:=by omega
 have aX:0<=(k:Int):=by omega
 obtain⟨m1,m2⟩:=hm;clear h hp hg aQ lw l6;have main:∀(w1:World),Below W.heap.size W w1->∃g n c,w1.cell? ⟨rb,1,none⟩=some (.slice (some ⟨g,0,none⟩) n c)/\(k:Int)<(n:Int)/\(w1.cell? ⟨g,k*7,none⟩=some (I t.id)/\w1.cell? ⟨g,k*7+1,none⟩=some (I t.w)/\w1.cell? ⟨g,k*7+2,none⟩=some (I t.group)/\w1.cell? ⟨g,k*7+3,none⟩=some (I t.core)/\w1.cell? ⟨g,k*7+4,none⟩=some (I t.state) /\
  w1.cell? ⟨g,k*7+5,none⟩=some (.int .u16 t.mask)/\w1.cell? ⟨g,k*7+6,none⟩=some (I t.lag))/\w1.frozen? ⟨g,k*7+5,none⟩=false/\Hid (∀o:Obj,fR rb own 0 ⟨r.cores,r.ts.set k (zI t m),r.gs,r.acc,r.ps⟩ W (.returned (I 0)) ((w1.setCell ⟨g,k*7+5,none⟩ (.int .u16 m)).alloc o)):=fun w1 hb=>by
  have hR:=HR.out.below hb;obtain⟨g,n,c,hv,aw,ho,hn,r0,r1,r2,r3,r4,r5,r6⟩:=hR.row_ HK.out;have c1:=hR.c1;rw[hv] at c1;have iN:=hR.taskCell hv (f:=5) (t':=zI t m) (u:=.int .u16 m) HK.out (by omega) rfl;refine⟨g,_,c,c1,by omega,⟨r0,r1,r2,r3,r4,r5,r6⟩,hR.freeT hv _,lH (fun o=>⟨rfl,B,own,iN.below ((Below.refl _ _).alloc (Nat.le_refl _) o),?_⟩)⟩;exact(RStep.below hb).trans ((RStep.keep (((Touch.refl (fun k=>k=g) w1).setCell (t:=none) (c:=g) (i:=k*7+5) (.inl rfl) (.int .u16 m))) (fun k hk=>by rw[hk,ho];simp)).trans (RStep.below ((Below.refl _ _).alloc (Nat.le_refl _) o)))
 have HM:=lH main;obtain⟨tid,tw,tg,tc,tst,tm,tl⟩:=t;simp only at hs;clear main;rcases hs with⟨s2,s5⟩ | ⟨hs,hh,c0n,hc,lw⟩
 · have e2:(tst==2)=false:=by simpa using s2
   have e5:(tst==5)=false:=by simpa using s5
   go_enter Tryz.func34,Tryz.ntmps34;go_wp2_with fail
   refine aE.mono ?_;rintro e w1 ⟨rfl,rfl⟩;go_wp2_with fail
   refine lA.mono ?_;rintro e w1 ⟨rfl,eE⟩;obtain⟨g,n,c,c1,aS,⟨r0,r1,r2,r3,r4,r5,r6⟩,f5,HF⟩:=HM.out w1 eE;try simp only at r0 r1 r2 r3 r4 r5 r6
   clear eE lA aE hk c0;go_wp2_with fail
   go_ret
   exact HF.out _
 · subst hc;have rN:=wC c0n lw;have eX:=ul m ⟨m1,m2⟩ c0n lw;rw[hh] at eX;rcases hs with rfl | rfl;all_goals
    go_enter Tryz.func34,Tryz.ntmps34;go_wp2_with fail
    refine aE.mono ?_;rintro e w1 ⟨rfl,rfl⟩;go_wp2_with fail
    refine lA.mono ?_;rintro e w1 ⟨rfl,eE⟩;obtain⟨g,n,c,c1,aS,⟨r0,r1,r2,r3,r4,r5,r6⟩,f5,HF⟩:=HM.out w1 eE;try simp only at r0 r1 r2 r3 r4 r5 r6
    clear eE lA aE hk c0;go_wp2_with fail
    go_ret
    exact HF.out _
section
variable {P:Program} {ops:Array Oper} {md:Region.Mode} {Q:Exit->Act->World->Prop} {S:World->Prop} {T:List Nat}
theorem wZ {i j:Nat} {oi oj:Oper} {fuel:Nat} {listed:Array Bool} {a:Act} {w:World} (hr:Region.ready md ops listed=[i,j]) (hi:ops[i]? = some oi) (hj:ops[j]? = some oj) (hl:(!T.contains i&&!T.contains j)=true)
 (h1:∀K':Act->World->Prop,(∀a w,S w->xB P md ops Q S T fuel (listed.setIfInBounds i true) a w->K' a w)->if Region.wanted oi (yielded ops a.tmps)=true then Oper.wp P oi a w K' Q else K' (a.put oi.dst undef) w)
 (h2:∀K':Act->World->Prop,(∀a w,S w->xB P md ops Q S T fuel (listed.setIfInBounds j true) a w->K' a w)->if Region.wanted oj (yielded ops a.tmps)=true then Oper.wp P oj a w K' Q else K' (a.put oj.dst undef) w) :
 xB P md ops Q S T (fuel+1) listed a w:=by
 refine⟨fun h0=>(by rw[h0] at hr;cases hr),fun x hx=>?_⟩;rw[hr] at hx;rcases List.mem_cons.1 hx with rfl | hx
 · exact wpOp_step hi (fun K' hK=>h1 K' (fun a w hS hW=>hK a w ⟨fun _=>hS,hW⟩))
 · obtain rfl:x=j:=by simpa using hx
   exact wpOp_step hj (fun K' hK=>h2 K' (fun a w hS hW=>hK a w ⟨fun _=>hS,hW⟩))
end
def SpS (W1:World) (rb bt:Nat) (v:Value) (t:Tk) (w:World):Prop:=
 w.cell? ⟨rb,1,none⟩=some v/\(w.cell? ⟨bt,0,none⟩=some (I t.id)/\w.cell? ⟨bt,1,none⟩=some (I t.w)/\w.cell? ⟨bt,2,none⟩=some (I t.group)/\w.cell? ⟨bt,3,none⟩=some (I t.core) /\
  w.cell? ⟨bt,4,none⟩=some (I t.state)/\w.cell? ⟨bt,5,none⟩=some (.int .u16 t.mask)/\w.cell? ⟨bt,6,none⟩=some (I t.lag))/\Hid (Below W1.heap.size W1 w)
theorem SpS.alloc {W1 w:World} {rb bt:Nat} {v:Value} {t:Tk} (h:SpS W1 rb bt v t w) (o:Obj):SpS W1 rb bt v t (w.alloc o):=by
 obtain⟨h1,⟨h2,h3,h4,h5,h6,h7,h8⟩,hb⟩:=h;exact⟨c2a o h1,⟨c2a o h2,c2a o h3,c2a o h4,c2a o h5,c2a o h6,c2a o h7,c2a o h8⟩,lH (hb.out.alloc hb.out.size _)⟩
theorem SpS.grown {W1 w w':World} {rb bt:Nat} {v:Value} {t:Tk} {row:Option Nat} (h:SpS W1 rb bt v t w) (h1:rb<W1.heap.size) (h2:bt<W1.heap.size) (hg:w.grownBy w' row) (hr:∀k,row=some k->W1.heap.size<=k):SpS W1 rb bt v t w':=by
 obtain⟨c1,⟨c2,c3,c4,c5,c6,c7,c8⟩,hb⟩:=h;have n1:some rb≠row:=fun e=>by have:=hr rb e.symm;omega
 have n2:some bt≠row:=fun e=>by have:=hr bt e.symm;omega
 exact⟨hg.cell c1 n1,⟨hg.cell c2 n2,hg.cell c3 n2,hg.cell c4 n2,hg.cell c5 n2,hg.cell c6 n2,hg.cell c7 n2,hg.cell c8 n2⟩,lH (hb.out.grown hg hb.out.size hr)⟩
theorem SrcAt.grown {w w':World} {size m b:Nat} {row:Option Nat} {xs:List Value} (h:SrcAt w size (some ⟨b,0,none⟩) m xs) (hg:w.grownBy w' row) (hn:some b≠row):SrcAt w' size (some ⟨b,0,none⟩) m xs:=
 h.same hg.size (fun ad he hl=>by
  obtain rfl:=Option.some.inj he;exact hg.block _ hl hn)
theorem Ve (rb:Nat) (B:RBk) (own:Nat->Option ROwn) (r:RSy) (w m g id:Int) (ps':List (Int×Bool)) (W:World) (h:RAt W rb B own r) (aT:r.ts.length<=64) (lw:1<=r.cores.length/\r.cores.length<=16)
 (hw:zQ w=true) (hm:0<=m/\m<65536) (tD:ye m r.cores.length=true) (hg:zL r.gs g=true) (hz:xj r.ps) (A0:ym r.ps=(id,0,ps')) (h0:0<=id/\id<=1000000)
 (iX:∀(j:Nat) (t:Tk),r.ts[j]? = some t->(0<=t.id/\t.id<=1000000)/\t.id%64≠id%64) :
 Calls Tryz.prog 31 #[.pointer (some ⟨rb,0,none⟩),I w,.int .u16 m,I g] W fun e w'=>e=.returned (.tuple #[I id,I 0]) /\
  ∃k,k<=r.ts.length/\(∀j t,r.ts[j]? = some t->j<k->t.id%64<id%64)/\(∀t,r.ts[k]? = some t->id%64<t.id%64) /\
   ∃B' own',RAt w' rb B' own' ⟨r.cores,r.ts.take k++ya id w m g::r.ts.drop k,r.gs,r.acc,ps'⟩/\RStep own own' W w':=by
 have lx:=yM w W;rw[hw] at lx;obtain⟨N,l6⟩:∃N,r.cores.length=N:=⟨_,rfl⟩
 have lA:=wV m hm N (by omega) (by omega) W;rw[<- l6,tD] at lA;rw[l6] at lA;obtain⟨ca,cc,aQ,-⟩:=h.coreCell;have c0:=h.c0;rw[aQ,l6] at c0;have eF:=h.lt rb (by rw[h.osys];simp);have pK:=lH (fun W' (hG:GrAt W' B.gb r.gs)=>qn B.gb r.gs g W' hG);have Ba:=lH (fun W' (hN:NaAt W' B.nb B.tb B.ob r.ps)=>dQ B.nb B.tb B.ob r.ps W' hN hz);have MK:=lH A0;have HG:=lH hg;have HR:=lH h;have EE:=lH iX;obtain⟨n,hn⟩:∃n,r.ts.length=n:=⟨_,rfl⟩
 have HN:=lH hn;have FG:n<=64:=by omega
 obtain⟨i0,hi,eG,aI,et⟩:=info_parts cF;obtain⟨id0,id1⟩:=h0;have NB:Int.tmod id 64=id%64:=Int.tmod_eq_emod_of_nonneg id0;obtain⟨im,LN⟩:∃x,id%64=x:=⟨_,rfl⟩
 rw[LN] at NB;have Mf:=lH LN;have FA:=LN;clear h hw tD hg hz A0 iX aQ hn aT lw LN l6;go_enter Tryz.func31,Tryz.ntmps31;go_wp2_with fail
 refine lx.mono ?_;rintro e w1 ⟨rfl,rfl⟩;go_wp2_with fail
 refine lA.mono ?_;rintro e w1 ⟨rfl,eE⟩;have lV:=HR.out.below eE;have c3:=lV.c3;have aB:=pK.out w1 lV.groups;rw[HG.out] at aB;have ef:=lH eE;have HR1a:=lH lV;clear eE lV lx lA c0;go_wp2_with fail
 refine aB.mono ?_;rintro e w1 ⟨rfl,rfl⟩;have ed:=Ba.out w1 HR1a.out.names;rw[MK.out] at ed;have c2:=HR1a.out.c2;simp only at ed;go_wp2_with fail
 refine ed.mono ?_;rintro e w2 ⟨rfl,Aa,aC⟩;have iN:=HR1a.out.setN Aa aC;have sG:RStep own own W w2:=(RStep.below ef.out).trans (RStep.keep aC (fun k hk=>by rcases hk with rfl | rfl | rfl;rw[HR.out.onb];simp;rw[HR.out.otb];simp;rw[HR.out.oob];simp))
 obtain⟨a,c,hv,ae⟩:=iN.tasks;have aa:=iN.trow;have c1:=iN.c1;simp only at hv aa ae;rw[hv] at c1 aa;rw[HN.out] at c1 aa;have AH:n<=c:=by
  rcases aa.2 with⟨e,-⟩ | ⟨g,cap,cur,e,-,-,AH,-⟩
  · simp only[Value.slice.injEq] at e;omega
  · simp only[Value.slice.injEq] at e;omega
 have nL:=lH iN;have MC:=lH sG;have HC:=lH ae;have eJ:=lH aa;clear Aa aC iN sG hv ae aa ed aB c2 c3;go_wp2_with fail
 go_loop [12] (fun x=>∃k:Nat,k<=n/\x=I k/\Hid (∀j t,r.ts[j]? = some t->j<k->t.id%64<id%64)) (fun x=>n-(intOf x).toNat)
 case atStart=>exact⟨0,Nat.zero_le _,rfl,lH (fun j q hq hj=>absurd hj (Nat.not_lt_zero j))⟩
 case round=>
  obtain⟨k,hk,rfl,HK⟩:=hrel;have aX:0<=(k:Int):=by omega
  have sV:(k:Int)<=(c:Int):=by omega
  have aS:(k:Int)<=(n:Int):=by omega
  by_cases aw:k<n
  case' pos=>
   have eO:k<r.ts.length:=by rw[HN.out];exact aw
   obtain⟨p,BN⟩:∃p,r.ts[k]? = some p:=⟨_,List.getElem?_eq_getElem eO⟩
   obtain⟨gq,ha,g1,k0,-⟩:=HC.out k p BN;obtain⟨⟨q0,q1⟩,q2⟩:=EE.out k p BN;have iJ:(k:Int)<(n:Int):=by omega
   have HP:=lH BN;have C8:Int.tmod p.id 64=p.id%64:=Int.tmod_eq_emod_of_nonneg q0;obtain⟨pm,FO⟩:∃x,p.id%64=x:=⟨_,rfl⟩
   rw[FO] at C8 q2;have G6:=lH FO;obtain⟨pid,iS⟩:∃x,p.id=x:=⟨_,rfl⟩
   rw[iS] at k0 C8 q0 q1;rw[Mf.out] at q2;clear BN FO iS;by_cases ah:pm<im
   case' pos=>
    have Cx:Hid (∀j t,r.ts[j]? = some t->j<k+1->t.id%64<id%64):=lH (fun j q hq hj=>by
     by_cases e:j<k
     · exact HK.out j q hq e
     · obtain rfl:j=k:=by omega
       have:=HP.out;rw[hq] at this;obtain rfl:=Option.some.inj this;rw[G6.out,Mf.out];exact ah)
    clear q2 FA;go_wp2_with fail
    go_round
    case rel=>exact⟨k+1,by omega,by go_num,Cx⟩
    case measure=>simp[intOf];omega
   case' neg=>
    have OB:Hid (∀t,r.ts[k]? = some t->id%64<t.id%64):=lH (fun q hq=>by
     have:=HP.out;rw[hq] at this;obtain rfl:=Option.some.inj this;rw[G6.out,Mf.out];omega)
    have nG:¬pm<im:=ah;clear q2 FA;go_wp2_with fail
    clear ha g1 k0 HP C8 G6 q0 q1
  case' neg=>
   have OB:Hid (∀t,r.ts[k]? = some t->id%64<t.id%64):=lH (fun q hq=>by
    have:=(List.getElem?_eq_some_iff.1 hq).1;rw[HN.out] at this;omega)
   have iJ:¬(k:Int)<(n:Int):=by omega
   clear FA;go_wp2_with fail
  all_goals
   obtain⟨bt,sx⟩:∃x,w2.heap.size=x:=⟨_,rfl⟩
   obtain⟨W1,lu⟩:∃x,w2.alloc (.cells #[I id,I w,I g,I (-1),I 1,.int .u16 m,I 0] 62)=x:=⟨_,rfl⟩
   have MR:Below w2.heap.size w2 W1:=by rw[<- lu];exact(Below.refl _ _).alloc (Nat.le_refl _) _
   have lV:=nL.out.below MR;have MB:=lH (MC.out.trans (RStep.below MR));have ey:yZ W1 bt (ya id w m g):=by rw[<- lu,<- sx];exact heap_alloc_new _ _
   obtain⟨⟨d0,d1,d2,d3,d4,d5,d6⟩,-⟩:=ey.cells;have c1':W1.cell? ⟨rb,1,none⟩=some (.slice a n c):=by rw[<- lu];exact c2a _ c1
   have aW:W1.ownsRow 0 62 7 (.slice a n c) n (zu r.ts):=by rw[<- lu];exact eJ.out.alloc _
   have io:Hid (rb<W1.heap.size/\bt<W1.heap.size):=lH ⟨lV.lt rb (by rw[lV.osys];simp),ey.lt⟩;have ra:=lH lV;rw[lu,sx];clear lu sx MR lV ey;have AD:k<=r.ts.length:=by rw[HN.out];exact hk
   have iu:=(qF aW (wQ r.ts) k hk)
   have eM:=(vj aW (wQ r.ts) k hk)
   rw[kj r.ts k AD] at iu;rw[kh r.ts k AD] at eM;have le:=qp 46 62 7 Tryz.underlying46 (fun w=>Tryz.sizeOf62 w) a n c k hk;generalize(if c=k then a else a.map (·.add (k*7)))=a' at eM le;have lD:SpS W1 rb bt (.slice a n c) (ya id w m g) W1.drew:=⟨c1',⟨d0,d1,d2,d3,d4,d5,d6⟩,lH (Below.refl _ _).drew⟩
   have ig:(W1.drew.alloc (.cells #[] 62)).ownsRow W1.heap.size 62 7 (.slice (some ⟨W1.heap.size,0,none⟩) 0 0) 0 []:=
    ⟨rfl,.inr ⟨W1.heap.size,0,#[],rfl,Nat.le_refl _,by show(W1.heap.push _)[W1.heap.size]? = _;simp,Nat.le_refl _,by unfold maxLen;omega,rfl,rfl⟩⟩
   have iL:=lH iu;have iy:=lH eM;clear iu eM aW c1 c1' d0 d1 d2 d3 d4 d5 d6;refine zK (S:=SpS W1 rb bt (.slice a n c) (ya id w m g)) (T:=[19,20,21]) (by kernel_rfl) ?_;refine wT 0 ?_ (hy:=by intro w iq;obtain⟨s0,⟨s1,s2,s3,s4,s5,s6,s7⟩,-⟩:=iq;simp only[ya] at s1 s2 s3 s4 s5 s6 s7;(try simp only[Act.put,aP,List.set]);go_simp;try with_reducible rfl);refine wT 2 ?_ (hy:=by intro w iq;obtain⟨s0,⟨s1,s2,s3,s4,s5,s6,s7⟩,-⟩:=iq;simp only[ya] at s1 s2 s3 s4 s5 s6 s7;(try simp only[Act.put,aP,List.set]);go_simp;try with_reducible rfl);refine wT 3 ?_ (hy:=by intro w iq;obtain⟨s0,⟨s1,s2,s3,s4,s5,s6,s7⟩,-⟩:=iq;simp only[ya] at s1 s2 s3 s4 s5 s6 s7;(try simp only[Act.put,aP,List.set]);go_simp;try with_reducible rfl);refine wT 4 ?_ (hy:=by intro w iq;obtain⟨s0,⟨s1,s2,s3,s4,s5,s6,s7⟩,-⟩:=iq;simp only[ya] at s1 s2 s3 s4 s5 s6 s7;(try simp only[Act.put,aP,List.set]);go_simp;try with_reducible rfl);refine wT 5 ?_ (hy:=by intro w iq;obtain⟨s0,⟨s1,s2,s3,s4,s5,s6,s7⟩,-⟩:=iq;simp only[ya] at s1 s2 s3 s4 s5 s6 s7;(try simp only[Act.put,aP,List.set]);go_simp;try with_reducible rfl);refine wT 6 ?_ (hy:=by intro w iq;obtain⟨s0,⟨s1,s2,s3,s4,s5,s6,s7⟩,-⟩:=iq;simp only[ya] at s1 s2 s3 s4 s5 s6 s7;(try simp only[Act.put,aP,List.set]);go_simp;try with_reducible rfl);refine wT 7 ?_ (hy:=by intro w iq;obtain⟨s0,⟨s1,s2,s3,s4,s5,s6,s7⟩,-⟩:=iq;simp only[ya] at s1 s2 s3 s4 s5 s6 s7;(try simp only[Act.put,aP,List.set]);go_simp;try with_reducible rfl);refine wT 9 ?_ (hy:=by intro w iq;obtain⟨s0,⟨s1,s2,s3,s4,s5,s6,s7⟩,-⟩:=iq;simp only[ya] at s1 s2 s3 s4 s5 s6 s7;(try simp only[Act.put,aP,List.set]);go_simp;try with_reducible rfl);refine wT 12 ?_ (hy:=by intro w iq;obtain⟨s0,⟨s1,s2,s3,s4,s5,s6,s7⟩,-⟩:=iq;simp only[ya] at s1 s2 s3 s4 s5 s6 s7;(try simp only[Act.put,aP,List.set]);go_simp;try with_reducible rfl);refine wT 13 ?_ (hy:=by intro w iq;obtain⟨s0,⟨s1,s2,s3,s4,s5,s6,s7⟩,-⟩:=iq;simp only[ya] at s1 s2 s3 s4 s5 s6 s7;(try simp only[Act.put,aP,List.set]);go_simp;try with_reducible rfl);refine wT 14 ?_ (hy:=by intro w iq;obtain⟨s0,⟨s1,s2,s3,s4,s5,s6,s7⟩,-⟩:=iq;simp only[ya] at s1 s2 s3 s4 s5 s6 s7;(try simp only[Act.put,aP,List.set]);go_simp;try with_reducible rfl);refine wT 15 ?_ (hy:=by intro w iq;obtain⟨s0,⟨s1,s2,s3,s4,s5,s6,s7⟩,-⟩:=iq;simp only[ya] at s1 s2 s3 s4 s5 s6 s7;(try simp only[Act.put,aP,List.set]);go_simp;try with_reducible rfl);refine wT 16 ?_ (hy:=by intro w iq;obtain⟨s0,⟨s1,s2,s3,s4,s5,s6,s7⟩,-⟩:=iq;simp only[ya] at s1 s2 s3 s4 s5 s6 s7;(try simp only[Act.put,aP,List.set]);go_simp;try with_reducible rfl);refine wT 17 ?_ (hy:=by intro w iq;obtain⟨s0,⟨s1,s2,s3,s4,s5,s6,s7⟩,-⟩:=iq;simp only[ya] at s1 s2 s3 s4 s5 s6 s7;(try simp only[Act.put,aP,List.set]);go_simp;try with_reducible rfl);simp only[Act.put,aP,List.set];refine wZ (i:=1) (j:=10) (by kernel_rfl) rfl rfl (by kernel_rfl) ?_ ?_;case' refine_2=>
    intro K hK;go_simp
    have aF:=lD.alloc (.cells #[I id,I w,I g,I (-1),I 1,.int .u16 m,I 0] 62);have sD:=vL (w:=W1.drew) (cs:=#[I id,I w,I g,I (-1),I 1,.int .u16 m,I 0]) (t:=62) (by simp[Value.oneCell']);refine hK _ _ aF ?_;clear hK;refine ze (i:=1) (by kernel_rfl) rfl (by kernel_rfl) ?_;intro K hK;go_simp
    have aC:=aF.alloc (.cells #[] 62);have Ed:=sD.below ((Below.refl _ _).alloc (Nat.le_refl _) (.cells #[] 62));have ec:((W1.drew.alloc (.cells #[I id,I w,I g,I (-1),I 1,.int .u16 m,I 0] 62)).alloc (.cells #[] 62)).ownsRow W1.heap.size 62 7 (.slice (some ⟨W1.heap.size+1,0,none⟩) 0 0) 0 []:=
     ⟨rfl,.inr ⟨W1.heap.size+1,0,#[],rfl,by omega,by have:=heap_alloc_new (W1.drew.alloc (.cells #[I id,I w,I g,I (-1),I 1,.int .u16 m,I 0] 62)) (.cells #[] 62);rw[show(W1.drew.alloc (.cells #[I id,I w,I g,I (-1),I 1,.int .u16 m,I 0] 62)).heap.size=W1.heap.size+1 by simp] at this;exact this,Nat.le_refl _,by unfold maxLen;omega,rfl,rfl⟩⟩
    refine hK _ _ aC ?_;clear hK;refine ze (i:=8) (by kernel_rfl) rfl (by kernel_rfl) ?_;intro K hK;refine zz rfl _ _ _ rfl W1.heap.size 62 i0 _ 7 56 Tryz.underlying46 hi eG aI et rfl (by omega) (.slice (some ⟨W1.heap.size+1,0,none⟩) 0 0) 0 [] rfl ec a k c _ rfl (iL.out.below aC.2.2.out) (by unfold maxLen;omega) (by omega) (by simp;omega) k (by omega) (zu (r.ts.take k)) (List.nil_append _) ?_;intro a1 q1 wX rr el nk;have lR:=aC.grown io.out.1 io.out.2 el (fun k hk=>by have:W1.heap.size+1=k:=Option.some.inj hk;omega);have sC:=Ed.grown el (by simp[Value.ownBlock]);refine hK _ _ lR ?_;clear hK lD aF aC ig ec el nk sD Ed
   case' refine_1=>
    intro K hK;go_simp
    have aF:=lD.alloc (.cells #[] 62);refine hK _ _ aF ?_;clear hK;refine wZ (i:=8) (j:=10) (by kernel_rfl) rfl rfl (by kernel_rfl) ?_ ?_;case' refine_2=>
     intro K hK;go_simp
     have aC:=aF.alloc (.cells #[I id,I w,I g,I (-1),I 1,.int .u16 m,I 0] 62);have sD:=vL (w:=W1.drew.alloc (.cells #[] 62)) (cs:=#[I id,I w,I g,I (-1),I 1,.int .u16 m,I 0]) (t:=62) (by simp[Value.oneCell']);refine hK _ _ aC ?_;clear hK;refine ze (i:=8) (by kernel_rfl) rfl (by kernel_rfl) ?_;intro K hK;refine zz rfl _ _ _ rfl W1.heap.size 62 i0 _ 7 56 Tryz.underlying46 hi eG aI et rfl (by omega) (.slice (some ⟨W1.heap.size,0,none⟩) 0 0) 0 [] rfl (ig.alloc _) a k c _ rfl (iL.out.below aC.2.2.out) (by unfold maxLen;omega) (by omega) aC.2.2.out.size k (by omega) (zu (r.ts.take k)) (List.nil_append _) ?_;intro a1 q1 wX rr el nk;have lR:=aC.grown io.out.1 io.out.2 el (fun k hk=>Nat.le_of_eq (Option.some.inj hk));have sC:=sD.grown el (by simp[Value.ownBlock]);refine hK _ _ lR ?_;clear hK lD aF aC ig el nk sD;rw[show(W1.drew.alloc (.cells #[] 62)).heap.size=W1.heap.size+1 by simp] at sC
    case' refine_1=>
     intro K hK;refine zz rfl _ _ _ rfl W1.heap.size 62 i0 _ 7 56 Tryz.underlying46 hi eG aI et rfl (by omega) (.slice (some ⟨W1.heap.size,0,none⟩) 0 0) 0 [] rfl ig a k c _ rfl (iL.out.below aF.2.2.out) (by unfold maxLen;omega) (by omega) (by simp) k (by omega) (zu (r.ts.take k)) (List.nil_append _) ?_;intro a1 q1 w1 ec el nk;have aC:=aF.grown io.out.1 io.out.2 el (fun k hk=>Nat.le_of_eq (Option.some.inj hk));refine hK _ _ aC ?_;clear hK lD aF ig el nk;refine ze (i:=10) (by kernel_rfl) rfl (by kernel_rfl) ?_;intro K hK;go_simp
     have lR:=aC.alloc (.cells #[I id,I w,I g,I (-1),I 1,.int .u16 m,I 0] 62);have sC:=vL (w:=w1) (cs:=#[I id,I w,I g,I (-1),I 1,.int .u16 m,I 0]) (t:=62) (by simp[Value.oneCell']);have rr:=ec.alloc (.cells #[I id,I w,I g,I (-1),I 1,.int .u16 m,I 0] 62);refine hK _ _ lR ?_;clear hK aC ec;generalize w1.alloc (.cells #[I id,I w,I g,I (-1),I 1,.int .u16 m,I 0] 62)=wX at sC rr lR⊢
   all_goals
    refine ze (i:=11) (by kernel_rfl) rfl (by kernel_rfl) ?_;intro K hK;refine zz rfl _ _ _ rfl W1.heap.size 62 i0 _ 7 56 Tryz.underlying46 hi eG aI et rfl (by omega) (.slice a1 k q1) k (zu (r.ts.take k)) rfl rr (some ⟨_,0,none⟩) 1 1 [I id,I w,I g,I (-1),I 1,.int .u16 m,I 0] rfl sC (by unfold maxLen;omega) (by omega) lR.2.2.out.size (k+1) rfl (zu (r.ts.take k++[ya id w m g])) (by rw[xq];rfl) ?_;intro a2 q2 w2 eh aR nm;have Ac:=lR.grown io.out.1 io.out.2 aR (fun k hk=>(rr.lt k hk).1);refine hK _ _ Ac ?_;clear hK lR aR nm rr sC;refine ze (i:=18) (by kernel_rfl) rfl (by kernel_rfl) ?_;intro K hK;refine zz rfl _ _ _ rfl W1.heap.size 62 i0 _ 7 56 Tryz.underlying46 hi eG aI et rfl (by omega) (.slice a2 (k+1) q2) (k+1) (zu (r.ts.take k++[ya id w m g])) rfl eh a' (n-k) (c-k) _ rfl (iy.out.below Ac.2.2.out) (by unfold maxLen;omega) (by omega) Ac.2.2.out.size (n+1) (by omega) (zu (r.ts.take k++ya id w m g::r.ts.drop k)) (by rw[<- xq];simp) ?_;intro a3 q3 w3 eK eI nU;have ip:=Ac.grown io.out.1 io.out.2 eI (fun k hk=>(eh.lt k hk).1);refine hK _ _ ip ?_;have f3':=(ra.out.below ip.2.2.out).live 1;have e3':=ip.1;clear hK Ac eI nU eh;refine zk (i:=19) (by kernel_rfl) rfl (by kernel_rfl) ?_;intro K hK;go_simp
    refine hK _ _ ?_;clear hK;refine zk (i:=20) (by kernel_rfl) rfl (by kernel_rfl) ?_;intro K hK;go_simp
    refine hK _ _ ?_;clear hK;refine zk (i:=21) (by kernel_rfl) rfl (by kernel_rfl) ?_;intro K hK;go_simp
    refine hK _ _ ?_;clear hK;refine zy (by kernel_rfl) ?_ _;have ag:(r.ts.take k++ya id w m g::r.ts.drop k).length=n+1:=by simp[HN.out];omega
    rw[<- ag] at eK;obtain⟨oF,pC⟩:=ra.out.rowNew ip.2.2.out eK;rw[ag] at oF pC;have au:=lH (And.intro oF (MB.out.trans pC));clear oF pC eK ag ip f3' e3' le;generalize w3.setCell ⟨rb,1,none⟩ (.slice a3 (n+1) q3)=W5 at au⊢;go_wp2_with fail
    go_ret2
    exact⟨rfl,k,by rw[HN.out];exact hk,HK.out,OB.out,_,_,au.out.1,au.out.2⟩
end
def UsS (wr:World) (pg k rb j:Nat) (q0 q1 q2 q3:Int) (w:World):Prop:=
 w.cell? ⟨pg,k,none⟩=some (I j)/\(w.cell? ⟨rb,4+j*4,none⟩=some (I q0)/\w.cell? ⟨rb,4+j*4+1,none⟩=some (I q1)/\w.cell? ⟨rb,4+j*4+2,none⟩=some (I q2)/\w.cell? ⟨rb,4+j*4+3,none⟩=some (I q3))/\Hid (Below wr.heap.size wr w)
def HoS (wr:World) (rb g j:Nat) (v:Value) (t:Tk) (w:World):Prop:=
 w.cell? ⟨rb,1,none⟩=some v/\(w.cell? ⟨g,j*7,none⟩=some (I t.id)/\w.cell? ⟨g,j*7+1,none⟩=some (I t.w)/\w.cell? ⟨g,j*7+2,none⟩=some (I t.group)/\w.cell? ⟨g,j*7+3,none⟩=some (I t.core) /\
  w.cell? ⟨g,j*7+4,none⟩=some (I t.state)/\w.cell? ⟨g,j*7+5,none⟩=some (.int .u16 t.mask)/\w.cell? ⟨g,j*7+6,none⟩=some (I t.lag))/\Hid (Below wr.heap.size wr w)
theorem KF (ac:List xS) (j:Nat) (h:0<=(j:Int)/\(j:Int)<16):xp ac ⟨(j:Int),h⟩=if (xu (ac.getD j default).1 (ac.getD j default).2.1 (ac.getD j default).2.2.1 (ac.getD j default).2.2.2).2=0 then ac.set j (xu (ac.getD j default).1 (ac.getD j default).2.1 (ac.getD j default).2.2.1 (ac.getD j default).2.2.2).1 else ac:=by
 unfold xp;simp only[Int.toNat_natCast]
theorem ZE (acc:List xS) (x:G16):(xp acc x).length=acc.length:=by
 unfold xp;split <;> simp
theorem QG (xs:List G16) (acc:List xS):(xs.foldl xp acc).length=acc.length:=by
 induction xs generalizing acc with
 | nil=>rfl
 | cons a l ih=>exact(ih _).trans (ZE acc a)
def uz (xs:List Int):Nat->Nat
 | 0=>0
 | k+1=>if xs.getD (uz xs k) 0<xs.getD k 0 then k else uz xs k
theorem bR (xs:List Int):∀k j,j<=k->xs.getD j 0<=wu xs k
 | 0,j,h=>by
  obtain rfl:j=0:=by omega
  exact Int.le_refl _
 | k+1,j,h=>by
  have ih:=bR xs k j;show _<=max (wu xs k) (xs.getD (k+1) 0);by_cases e:j=k+1
  · subst e;omega
  · have:=ih (by omega);omega
theorem jy (xs:List Int):∀k,uz xs (k+1)<=k/\xs.getD (uz xs (k+1)) 0=wu xs k/\∀j,j<uz xs (k+1)->xs.getD j 0≠wu xs k
 | 0=>by
  have hs:uz xs (0+1)=0:=by show(if _ then 0 else 0)=0;split <;> rfl
  rw[hs];exact⟨Nat.le_refl _,rfl,fun j hj=>by omega⟩
 | k+1=>by
  obtain⟨h1,h2,h3⟩:=jy xs k;have hs:uz xs (k+1+1)=if xs.getD (uz xs (k+1)) 0<xs.getD (k+1) 0 then k+1 else uz xs (k+1):=rfl
  have hm:wu xs (k+1)=max (wu xs k) (xs.getD (k+1) 0):=rfl;rw[hs,hm,h2];by_cases e:wu xs k<xs.getD (k+1) 0
  · rw[if_pos e];refine⟨Nat.le_refl _,by omega,fun j hj=>?_⟩;have:=bR xs k j (by omega);omega
  · rw[if_neg e];refine⟨by omega,by omega,fun j hj=>?_⟩;have:=h3 j hj;omega
theorem QV (xs:List Int) (k:Nat):uz xs (k+1)<=k:=(jy xs k).1
theorem Ww {xs:List Int} {N:Nat} (hN:xs.length=N) (h1:1<=N):xm xs=(uz xs N:Int):=by
 obtain⟨k,rfl⟩:∃k,N=k+1:=⟨N-1,by omega⟩
 obtain⟨a,b,c⟩:=jy xs k;unfold xm;rw[hN];exact Xt (by omega) c b
section
variable {k n:Nat} {b:Int} {s:Sy} {r:RSy}
theorem Ka (hR:Rel s r) (hI:InvY k b n s) {ids:List Int} (hp:ids.Perm (zf s.ps)) {q:Nat} (hq:q<ids.length) :
 ∃j t,j<r.ts.length/\r.ts[j]? = some t/\xr r.ts ids[q]=((j:Nat):Int)/\evL s (ids.take (q+1))=evL s (ids.take q)++(if t.state=2 then[⟨t.id,t.w,t.core,t.mask⟩] else[]):=by
 obtain⟨u,xs,hu,-⟩:=hI.some_ (hp.mem_iff.1 (List.getElem_mem hq));have hT:=hI.task _ u hu;obtain⟨j,t,iK,hj,LR,hS⟩:=hR.find hu hT.id;refine⟨j,t,iK,hj,LR,?_⟩;rw[b9 hq hu,hS.state,hS.id,hS.w,hS.core,hS.mask]
theorem J1 (hI:InvY k b n s) {ids:List Int} (q:Nat) (hq:q<(evL s ids).length):(1<=(evL s ids)[q]!.w/\(evL s ids)[q]!.w<=20/\0<=(evL s ids)[q]!.core/\(evL s ids)[q]!.core<n)/\0<=(evL s ids)[q]!.mask/\(evL s ids)[q]!.mask<65536:=by
 obtain⟨x,t,-,ht,h2,e⟩:=cA hq;have hT:=hI.task x t ht;obtain⟨i,hi,aN,-⟩:=hI.at_ ht h2;rw[e];exact⟨⟨hT.w.1,hT.w.2,by show 0<=t.core;omega,by show t.core<n;omega⟩,hT.mask.1⟩
theorem Jk (ps:List Pt) (aT:ps.length<=64) (hw:∀p∈ps,1<=p.w/\p.w<=20):0<=xK ps/\xK ps<=1280:=by
 have gen:∀ps:List Pt,(∀p∈ps,1<=p.w/\p.w<=20)->0<=(ps.map (·.w)).sum/\(ps.map (·.w)).sum<=ps.length*20:=by
  intro ps;induction ps with
  | nil=>intro _;simp
  | cons p ps ih=>
   intro h;have h1:=h p List.mem_cons_self;have h2:=ih (fun q hq=>h q (List.mem_cons_of_mem _ hq));rw[List.map_cons,List.sum_cons,List.length_cons];omega
 have:=gen ps hw;unfold xK;omega
theorem U7 (hI:InvY k b n s) (hk:k<=400) (hb:b<=1000000000000000000) (i:Nat) (hi:i<n):0<=(zj s).getD i 0/\(zj s).getD i 0<=1280:=by
 have nh:i<s.cores.length:=by rw[hI.len];exact hi
 have e:(zj s).getD i 0=xK s.cores[i]!.l.ps:=by
  rw[<- Z3];unfold zj;rw[List.getD_eq_getElem?_getD,List.getElem?_map,List.getElem?_eq_getElem nh,getElem!_pos s.cores i nh];rfl
 rw[e];obtain⟨n1,-,n3⟩:=hI.nums hk hb hi;exact Jk _ n1 (fun p hp=>(n3 p hp).2)
theorem UC (hI:InvY k b n s) (hk:k<=400) {ids:List Int} (hp:ids.Perm (zf s.ps)) (h:(yF (zj s) (evL s ids)).2.2=true):(xP s (yF (zj s) (evL s ids)).1 (yF (zj s) (evL s ids)).2.1).1=0:=by
 obtain⟨t,i,j,ht,h2,hi,aN,hj,mZ,pE,hm⟩:=bP hI hk hp h;rw[hj];have h8:=hI.n8;unfold xP;rw[ht];simp only
 rw[if_neg,if_neg (by omega)];rintro(e | e | e)
 · unfold onT at e;rw[h2] at e;exact absurd e (by decide)
 · rw[hm] at e;cases e
 · rw[hi] at e;exact pE (by omega)
end
end Go.Proofs.YtoiajjobecinpaaGreat
