/- The document's own system: Act: none, refused, start. The document's own system: Act: end. The docum -/
import Derived.Test.YtoiajjobecinpaaGreatTM33
import Derived.Test.YtoiajjobecinpaaGreatTM34
set_option maxHeartbeats 4000000
set_option maxRecDepth 100000
namespace Go.Proofs.YtoiajjobecinpaaGreat
open Go.RowKit Go.Shelf Go.Lib Go.Proofs
set_option linter.unusedVariables false
set_option linter.unusedSimpArgs false
section
attribute [local go_sem] Oper.semAt_some
theorem qD (rb:Nat) (B:RBk) (own:Nat->Option ROwn) (r:RSy) (op id:Int) (W:World) (h:RAt W rb B own r) (aT:r.ts.length<=1000) (hp:xr r.ts id=-1) :
 Calls Tryz.prog 32 #[.pointer (some ⟨rb,0,none⟩),I op,I id] W fun e w'=>e=.returned (I 2)/\W=w':=by
 have aE:=yd rb B own r id W h aT;rw[hp] at aE;clear h hp;go_enter Tryz.func32,Tryz.ntmps32;go_wp2_with fail
 refine aE.mono ?_;rintro e w1 ⟨rfl,rfl⟩;go_wp2_with fail
 go_ret
 exact⟨rfl,rfl⟩
def XE (op:Int):Int:=if op=3 then 1 else if op=4 then 4 else if op=5 then 5 else 8
theorem fz (rb:Nat) (B:RBk) (own:Nat->Option ROwn) (r:RSy) (op id:Int) (k:Nat) (t:Tk) (W:World) (h:RAt W rb B own r) (aT:r.ts.length<=1000) (hp:xr r.ts id=(k:Int)) (hk:r.ts[k]? = some t) (nN:op=3\/op=4\/op=5\/op=6)
 (aG:t.state=1\/t.state=2\/t.state=4\/t.state=5) (he:(nxt t.state (XE op)).2≠0) :
 Calls Tryz.prog 32 #[.pointer (some ⟨rb,0,none⟩),I op,I id] W fun e w'=>e=.returned (I (nxt t.state (XE op)).2)/\Below W.heap.size W w':=by
 have aE:=yd rb B own r id W h aT;rw[hp] at aE;obtain⟨g,n,c,hv,aw,ho,hn,k0,k1,k2,k3,k4,k5,k6⟩:=h.row_ hk;rw[<- hn] at hv aw;have c1:=h.c1;rw[hv] at c1;have aX:0<=(k:Int):=by omega
 have aS:(k:Int)<(n:Int):=by omega
 have iB:=fun W'=>wy t.state (XE op) aG (by unfold XE;rcases nN with rfl | rfl | rfl | rfl <;> simp) W';obtain⟨⟨a1,a2⟩,ha⟩:∃x,nxt t.state (XE op)=x:=⟨_,rfl⟩
 rw[ha] at iB he⊢;obtain⟨tid,tw,tg,tc,tst,tm,tl⟩:=t;simp only at k0 k1 k2 k3 k4 k5 k6 iB he⊢;clear h hk hv hn aw hp aG ha ho;rcases nN with rfl | rfl | rfl | rfl;all_goals
  simp only[XE] at iB;simp at iB;go_enter Tryz.func32,Tryz.ntmps32;go_wp2_with fail
  refine aE.mono ?_;rintro e w1 ⟨rfl,rfl⟩;go_wp2_with fail
  refine(iB _).mono ?_;rintro e w1 ⟨rfl,rfl⟩;go_wp2_with fail
  go_ret
  exact⟨rfl,((Below.refl _ _).alloc (Nat.le_refl _) _).alloc (by simp) _⟩
def xb (W:World) (t:Tk):World:=(W.alloc (.cells #[I t.id,I t.w,I t.group,I t.core,I t.state,.int .u16 t.mask,I t.lag] 62)).alloc (.cells #[I 0,I 0,I 0,I 1,I 4,I 5,I 8] 3)
theorem wl (W:World) (t:Tk):yZ (xb W t) W.heap.size t/\Below W.heap.size W (xb W t)/\(xb W t).heap.size=W.heap.size+2:=by
 refine⟨?_,((Below.refl _ _).alloc (Nat.le_refl _) _).alloc (by simp) _,by simp[xb]⟩;unfold yZ xb;rw[Below.heap_alloc _ _ _ (by simp)];exact heap_alloc_new W _
theorem YB (rb:Nat) (B:RBk) (own:Nat->Option ROwn) (r:RSy) (id:Int) (k:Nat) (t:Tk) (i:Nat) (st:Int) (cs':List (Int×Ln)) (W:World) (h:RAt W rb B own r) (aT:r.ts.length<=64) (hp:xr r.ts id=(k:Int)) (hk:r.ts[k]? = some t) (aG:t.state=1)
 (hm:0<=t.mask/\t.mask<65536) (hl:(zD (zE r) t.mask).1=(i:Int)) (lw:0<r.cores.length/\r.cores.length<=16) (hw:∀c∈r.cores,c.2.ps.length<=64/\∀p∈c.2.ps,0<=p.w/\p.w<=20)
 (aj:∀W',RAt W' rb B own r->Calls Tryz.prog 72 #[.pointer (some ⟨rb,0,none⟩),tkV (coT t i),.bool false] W' fun e w'=>e=.returned (.tuple #[tkV (stT (coT t i) st),I 0])/\∃B' own',RAt w' rb B' own' ⟨cs',r.ts,r.gs,r.acc,r.ps⟩/\RStep own own' W' w') :
 Calls Tryz.prog 32 #[.pointer (some ⟨rb,0,none⟩),I 3,I id] W fun e w'=>e=.returned (I 0)/\∃B' own',RAt w' rb B' own' ⟨cs',r.ts.set k (stT (coT t i) st),r.gs,r.acc,r.ps⟩/\RStep own own' W w':=by
 have aE:=yd rb B own r id W h (by omega);rw[hp] at aE;obtain⟨g,n,c,hv,aw,ho,hn,k0,k1,k2,k3,k4,k5,k6⟩:=h.row_ hk;rw[<- hn] at hv aw;have c1:=h.c1;rw[hv] at c1;have aX:0<=(k:Int):=by omega
 have aS:(k:Int)<(n:Int):=by omega
 have iB:=fun W'=>wy 1 1 (.inl rfl) (.inl rfl) W';rw[show nxt 1 1=(2,0) by simp[nxt]] at iB;obtain⟨ey,eE,aI⟩:=wl W t;obtain⟨⟨b0,b1,b2,b3,b4,b5,b6⟩,bf⟩:=ey.cells;have D4:=fun W' (hb:Below W.heap.size W W')=>uJ rb B own r W' (h.below hb) lw.2 hw;have tI:(zE r).length=r.cores.length:=by simp[zE]
 have mC:=fun W' g' c' (hg:g'<W'.heap.size) (hx:∀j,j<(zE r).length->W'.cell? ⟨g',j,none⟩=some (I ((zE r).getD j 0)))=>uI g' c' (zE r).length (zE r) t.mask hm W' rfl (by omega) hg hx;have me:=lH (show 0<(zE r).length by omega);have pz:=lH h;have oN:=lH aj;have HK:=lH hk;obtain⟨⟨lc,lb⟩,lI⟩:∃x,zD (zE r) t.mask=x:=⟨_,rfl⟩
 rw[lI] at hl mC;simp only at hl;subst hl;obtain⟨tid,tw,tg,tc,tst,tm,tl⟩:=t;simp only at k0 k1 k2 k3 k4 k5 k6 b0 b1 b2 b3 b4 b5 b6 aG hm mC ey eE aI⊢;subst aG;have tU:=lH D4;have px:=lH mC;have ef:=lH eE;have nB:=lH ey;have nc:=lH aI;obtain⟨ls,pX⟩:∃x,zE r=x:=⟨_,rfl⟩
 rw[pX] at tU px me;have Ad:=h.lt;have sP:=lH Ad;clear h hk hv hn aw hp ho aj D4 mC lI hw lw tI eE ey aI pX Ad;unfold xb at b0 b1 b2 b3 b4 b5 b6 bf;go_enter Tryz.func32,Tryz.ntmps32;go_wp2_with fail
 refine aE.mono ?_;rintro e w1 ⟨rfl,rfl⟩;go_wp2_with fail
 refine(iB _).mono ?_;rintro e w1 ⟨rfl,rfl⟩;go_wp2_with fail
 obtain⟨W1,lu⟩:∃x,xb W ⟨tid,tw,tg,tc,1,tm,tl⟩=x:=⟨_,rfl⟩
 rw[lu] at ef nB nc;unfold xb at lu;simp only at lu;rw[lu] at b0 b1 b2 b3 b4 b5 b6 bf⊢;clear lu;have lr:W1.drew.cell? ⟨W.heap.size,5,none⟩=some (.int .u16 tm):=b5;go_region_held3 (fun W2=>W2.cell? ⟨W.heap.size,5,none⟩=some (.int .u16 tm)) (first | (with_reducible exact lr) | (with_reducible exact eo) | (with_reducible exact ny) | (with_reducible exact r8)) (first | (go_at_call 71;refine(tU.out W1.drew ef.out.drew).mono ?_;rintro e w9 ⟨v,rfl,iF,nw⟩;obtain⟨lg,lcap,rfl,D3⟩:=us iF me.out;have eo:w9.cell? ⟨W.heap.size,5,none⟩=some (.int .u16 tm):=(nw.cell (p:=⟨W.heap.size,5,none⟩) (by have:=nc.out;show W.heap.size<W1.heap.size;omega)).trans lr) | (go_at_call 70;refine(px.out w9 lg lcap (iF.lt lg rfl).2 D3).mono ?_;rintro e w8 ⟨rfl,sQ⟩;have ny:=(sQ.cell (p:=⟨W.heap.size,5,none⟩) (by have:=nc.out;have:=nw.size;have e3:W1.drew.heap.size=W1.heap.size:=rfl;show W.heap.size<w9.heap.size;omega)).trans eo;have rG:=nB.out.same (W':=w8) ((sQ.block W.heap.size (by have:=nc.out;have:=nw.size;have e3:W1.drew.heap.size=W1.heap.size:=rfl;omega)).trans (nw.block W.heap.size (by have:=nc.out;have e3:W1.drew.heap.size=W1.heap.size:=rfl;omega)));have x3:=rG.cells.1.2.2.2.1;have xf:=rG.cells.2 3;simp only at x3;have r8:(w8.setCell ⟨W.heap.size,3,none⟩ (I i)).cell? ⟨W.heap.size,5,none⟩=some (.int .u16 tm):=by rw[za _ (by simp)];exact ny) | fail)
 have Br:Below W.heap.size W w8:=ef.out.drew.trans ((nw.mono ef.out.size).trans (sQ.mono (Nat.le_trans ef.out.size nw.size)))
 have Eu:W.heap.size+2<=w8.heap.size:=by have:=nc.out;have:=nw.size;have:=sQ.size;have e3:W1.drew.heap.size=W1.heap.size:=rfl;omega
 have mP:Below W.heap.size W (w8.setCell ⟨W.heap.size,3,none⟩ (I i)):=Br.setCell (p:=⟨W.heap.size,3,none⟩) (Nat.le_refl _) _;have Ay:=rG.core (i:Int);have s9:Hid (W.heap.size+2<=(w8.setCell ⟨W.heap.size,3,none⟩ (I i)).heap.size):=lH (by simpa using Eu);clear Br Eu rG x3 xf r8 ny eo sQ nw iF D3 lr b0 b1 b2 b3 b4 b5 b6 bf;generalize w8.setCell ⟨W.heap.size,3,none⟩ (I i)=W8 at mP Ay s9⊢;have aj:=oN.out W8 (pz.out.below mP);unfold coT stT at aj;simp only at aj;obtain⟨⟨x0,x1,x2,x3,x4,x5,x6⟩,-⟩:=Ay.cells;simp only[coT] at x0 x1 x2 x3 x4 x5 x6;have GN:=lH mP;have tT:=lH Ay;clear mP Ay;go_wp2_with fail
 refine aj.mono ?_;rintro e w5 ⟨rfl,B',own',mV,pq⟩;have mz:w5.heap[W.heap.size]? = W8.heap[W.heap.size]?:=pq.touch.block _ (by have:=s9.out;omega) (fun hh=>by have:=sP.out _ hh;omega);have mY:=tT.out.same mz;obtain⟨⟨y0,y1,y2,y3,y4,y5,y6⟩,yf⟩:=mY.cells;simp only[coT] at y0 y1 y2 y3 y4 y5 y6;have f0:=yf 0;have f1:=yf 1;have f2:=yf 2;have f3:=yf 3;have f4:=yf 4;have f5:=yf 5;have f6:=yf 6;have pu:=lH mY;have Dv:=lH mV;have pM:=lH ((RStep.below GN.out).trans pq);have Bn:∀k,own' k≠none->own k≠none\/W8.heap.size<=k:=pq.new;clear mY mV pq yf mz aj x0 x1 x2 x3 x4 x5 x6;go_wp2_with fail
 have hp:=qm pu.out ⟨tid,tw,tg,i,st,tm,tl⟩;have al:∀k,own' k≠none->k≠W.heap.size:=fun k hk e=>by
  rcases Bn k hk with h | h
  · have:=sP.out k h;omega
  · have:=s9.out;omega
 have mW:=Dv.out.same (W':=xA w5 W.heap.size ⟨tid,tw,tg,i,st,tm,tl⟩) (Nat.le_of_eq qA.symm) (fun k hk=>uF k (al k hk));have rS:RStep own own' W (xA w5 W.heap.size ⟨tid,tw,tg,i,st,tm,tl⟩):=⟨pM.out.new,uG pM.out.touch (.inr (Nat.le_refl _))⟩
 change Code.wp _ _ _ _ (xA w5 W.heap.size ⟨tid,tw,tg,i,st,tm,tl⟩);generalize xA w5 W.heap.size ⟨tid,tw,tg,i,st,tm,tl⟩=W6 at hp mW rS⊢;obtain⟨⟨z0,z1,z2,z3,z4,z5,z6⟩,-⟩:=hp.cells;simp only at z0 z1 z2 z3 z4 z5 z6;obtain⟨g',n',c',iC,iJ,nz,oo,r0,r1,r2,r3,r4,r5,r6⟩:=mW.row_ HK.out;have n9:=iC;rw[<- oo] at iC;simp only at iJ oo;have c1':=mW.c1;rw[iC] at c1';have lz:(k:Int)<(n':Int):=by omega
 have fr:=mW.freeT n9;have q0:=fr (k*7);have q1:=fr (k*7+1);have q2:=fr (k*7+2);have q3:=fr (k*7+3);have q4:=fr (k*7+4);have q5:=fr (k*7+5);have q6:=fr (k*7+6);have mj:=(mW.taskRow n9 ⟨tid,tw,tg,i,st,tm,tl⟩ HK.out).below (Below.refl _ _).drew;have rm:=RStep.trans rS (RStep.keep (own:=own') (vQ (F:=fun k=>k=g') (g:=g') (k:=k) (t:=⟨tid,tw,tg,i,st,tm,tl⟩) (Touch.refl _ W6) (.inl rfl)).drew (fun k hk=>by rw[hk,nz];simp));have au:=lH (And.intro mj rm);clear mW rS hp fr n9 iC oo iJ nz al y0 y1 y2 y3 y4 y5 y6 f0 f1 f2 f3 f4 f5 f6 aE iB k0 k1 k2 k3 k4 k5 k6 c1 mj rm;simp only at r0 r1 r2 r3 r4 r5 r6;go_still_tail 7,(by kernel_rfl)
 change wpList _ _ _ _ _ (World.drew _);go_wp2_with fail
 change bodyPost _ _ _ _ _ (World.drew (jo W6 g' k ⟨tid,tw,tg,i,st,tm,tl⟩));generalize World.drew (jo W6 g' k ⟨tid,tw,tg,i,st,tm,tl⟩)=Wf at au⊢;go_ret
 exact⟨rfl,_,_,au.out.1,au.out.2⟩
theorem wQ:∀(ps:List Tk) (v:Value),v∈zu ps->v.oneCell'=true:=fun ps v h=>by
 unfold zu at h;obtain⟨t,-,h⟩:=List.mem_flatMap.1 h;simp[Tk.cells] at h
 rcases h with rfl | rfl | rfl | rfl | rfl | rfl | rfl <;> rfl
theorem kj (ps:List Tk) (k:Nat) (hk:k<=ps.length):(zu ps).take (k*7)=zu (ps.take k):=by
 have e:zu ps=zu (ps.take k)++zu (ps.drop k):=by rw[<- xq,List.take_append_drop]
 rw[e,List.take_left'];rw[uo,List.length_take,Nat.min_eq_left hk]
theorem kh (ps:List Tk) (k:Nat) (hk:k<=ps.length):(zu ps).drop (k*7)=zu (ps.drop k):=by
 have e:zu ps=zu (ps.take k)++zu (ps.drop k):=by rw[<- xq,List.take_append_drop]
 rw[e,List.drop_left'];rw[uo,List.length_take,Nat.min_eq_left hk]
theorem cF:(Tryz.prog.info? 62).map (fun i=>(i.zero,i.size,i.bytes))=some (some (.agg #[I 0,I 0,I 0,I 0,I 0,.int .u16 0,I 0]),7,56):=by kernel_rfl
def qL (W:World) (rb:Nat) (v:Value) (w:World):Prop:=w.cell? ⟨rb,1,none⟩=some v/\Hid (Below W.heap.size W w)
theorem qL.alloc {W w:World} {qb:Nat} {v:Value} (h:qL W qb v w) (o:Obj):qL W qb v (w.alloc o):=
 ⟨Lib.cell?_alloc_some _ h.1,lH (h.2.out.alloc h.2.out.size _)⟩
theorem qL.grown {W w w':World} {qb:Nat} {v:Value} {row:Option Nat} (h:qL W qb v w) (hq:qb<W.heap.size) (hg:w.grownBy w' row) (hr:∀k,row=some k->W.heap.size<=k):qL W qb v w':=
 ⟨hg.cell h.1 (fun e=>by have:=hr qb e.symm;omega),lH (h.2.out.grown hg h.2.out.size hr)⟩
theorem RAt.rowNew {W w3:World} {rb:Nat} {B:RBk} {own:Nat->Option ROwn} {r:RSy} (h:RAt W rb B own r) (hb:Below W.heap.size W w3) {v':Value} {ts':List Tk} (hr:w3.ownsRow W.heap.size 62 7 v' ts'.length (zu ts')) :
 RAt (w3.setCell ⟨rb,1,none⟩ v') rb ⟨B.crv,v',B.srv,B.nb,B.tb,B.ob,B.gb,B.qbs,B.qv⟩ (fun k=>if v'.ownBlock=some k then some .trow else own k) ⟨r.cores,ts',r.gs,r.acc,r.ps⟩ /\
 RStep own (fun k=>if v'.ownBlock=some k then some .trow else own k) W (w3.setCell ⟨rb,1,none⟩ v'):=by
 have GF:=h.lt rb (by rw[h.osys];simp);have hT:Touch (fun j=>j=rb) W (w3.setCell ⟨rb,1,none⟩ v'):=(Touch.of_below (F:=fun j=>j=rb) hb).setCell (t:=none) (.inl rfl) _;have Gu:w3.heap[rb]? = W.heap[rb]?:=hb.block rb GF;have hw:w3.cell? ⟨rb,1,none⟩=some B.trv:=(World.cell?_of_block (a:=⟨rb,1,none⟩) Gu).trans h.c1;refine⟨h.newT (World.cell?_setCell_same _ _ _ hw) (fun i hi=>?_) (fun i=>?_) (zb hr (fun k hk=>Below.heap_setCell _ _ _ _ (fun e=>?_))) hT,RStep.more (x:=.trow) hT (fun k hk=>by rw[hk,h.osys];simp) (fun j hj=>.inr (hr.lt j hj).1)⟩
 · rw[za _ (by first | (simp;done) | (simp;omega))];exact World.cell?_of_block (a:=⟨rb,i,none⟩) Gu
 · rw[World.frozen?_setCell];exact World.frozen?_of_block (a:=⟨rb,i,none⟩) Gu
 · have:=(hr.lt k hk).1;replace e:k=rb:=e;omega
theorem dl (rb:Nat) (B:RBk) (own:Nat->Option ROwn) (r:RSy) (id:Int) (k:Nat) (t:Tk) (W:World) (h:RAt W rb B own r) (aT:r.ts.length<=64) (hp:xr r.ts id=(k:Int)) (hk:r.ts[k]? = some t) (aG:t.state=1\/t.state=4\/t.state=5)
 (h0:0<=id) (h2:id<=4611686018427387904) (hz:xj r.ps) (hb:hasB r.ps id=true) :
 Calls Tryz.prog 32 #[.pointer (some ⟨rb,0,none⟩),I 6,I id] W fun e w'=>e=.returned (I 0)/\∃B' own',RAt w' rb B' own' ⟨r.cores,r.ts.eraseIdx k,r.gs,r.acc,(uq r.ps id).2⟩/\RStep own own' W w':=by
 have aE:=yd rb B own r id W h (by omega);rw[hp] at aE;obtain⟨g,n,c,hv,aw,ho,hn,k0,k1,k2,k3,k4,k5,k6⟩:=h.row_ hk;rw[<- hn] at hv aw;have c1:=h.c1;rw[hv] at c1;have aX:0<=(k:Int):=by omega
 have aS:(k:Int)<(n:Int):=by omega
 have iY:(k:Int)+1<=(n:Int):=by omega
 have iB:=fun W'=>wy t.state 8 (by rcases aG with h | h | h <;> simp[h]) (.inr (.inr (.inr rfl))) W';rw[show nxt t.state 8=(6,0) by rcases aG with h | h | h <;> (rw[h];simp[nxt])] at iB;obtain⟨ey,eE,aI⟩:=wl W t;obtain⟨⟨b0,b1,b2,b3,b4,b5,b6⟩,bf⟩:=ey.cells;have Mc:=lH (fun W' (hN:NaAt W' B.nb B.tb B.ob r.ps)=>dP B.nb B.tb B.ob r.ps id W' hN h0 h2 hz hb);have HN:=lH hn.symm;have Du:Hid (r.ts.eraseIdx k=r.ts.take k++r.ts.drop (k+1)):=lH (List.eraseIdx_eq_take_drop_succ _ _);have mM:=lH (h.below eE);have ms:=lH (RStep.below (own:=own) eE);have m9:¬t.state=2:=by rcases aG with h | h | h <;> rw[h] <;> decide
 have FG:n<=64:=by omega
 obtain⟨tid,tw,tg,tc,tst,tm,tl⟩:=t;simp only at k0 k1 k2 k3 k4 k5 k6 b0 b1 b2 b3 b4 b5 b6 aG m9 iB mM ms⊢;clear h hk hv hn hp ho eE ey aI aG hz hb aT aw;unfold xb at b0 b1 b2 b3 b4 b5 b6 bf;go_enter Tryz.func32,Tryz.ntmps32;go_wp2_with fail
 refine aE.mono ?_;rintro e w1 ⟨rfl,rfl⟩;go_wp2_with fail
 refine(iB _).mono ?_;rintro e w1 ⟨rfl,rfl⟩;obtain⟨W9,H4⟩:∃x,xb W ⟨tid,tw,tg,tc,tst,tm,tl⟩=x:=⟨_,rfl⟩
 rw[H4] at mM ms;unfold xb at H4;simp only at H4;rw[H4] at b0 b1 b2 b3 b4 b5 b6 bf⊢;clear H4;have mj:=Mc.out W9 mM.out.names;have CG:=lH mM.out.lt;have c2:=mM.out.c2;go_wp2_with fail
 refine mj.mono ?_;rintro e w5 ⟨rfl,Hq,ip⟩;have mV:=mM.out.setN Hq ip;have pq:=ms.out.trans (RStep.keep ip (fun k hk=>by rcases hk with rfl | rfl | rfl;rw[mM.out.onb];simp;rw[mM.out.otb];simp;rw[mM.out.oob];simp))
 clear Hq ip mj;have mD:=lH mV;have pM:=lH pq;have aW:=mV.trow;have c3:=mV.c1;have io:=lH (mV.lt rb (by rw[mV.osys];simp));clear mV pq c2 b0 b1 b2 b3 b4 b5 b6 bf aE iB k0 k1 k2 k3 k4 k5 k6 c1;generalize w5=W1 at mD pM aW c3 io⊢;obtain⟨a',c',iC,-⟩:=zH aW;rw[iC] at c3 aW;rw[HN.out] at c3 aW;have sV:(k:Int)<=(c':Int):=by
  rcases aW.2 with⟨e,-⟩ | ⟨g,cap,cur,e,-,-,AH,-⟩
  · simp only[Value.slice.injEq] at e;omega
  · simp only[Value.slice.injEq] at e;omega
 have AH:n<=c':=by
  rcases aW.2 with⟨e,-⟩ | ⟨g,cap,cur,e,-,-,AH,-⟩
  · simp only[Value.slice.injEq] at e;omega
  · simp only[Value.slice.injEq] at e;omega
 have iu:=(qF aW (wQ r.ts) k (by omega))
 have eM:=(vj aW (wQ r.ts) (k+1) (by omega))
 rw[kj r.ts k (by rw[HN.out];omega)] at iu;rw[kh r.ts (k+1) (by rw[HN.out];omega)] at eM;have le:=qp 46 62 7 Tryz.underlying46 (fun w=>Tryz.sizeOf62 w) a' n c' (k+1) (by omega);rw[show((k+1:Nat):Int)=(k:Int)+1 from by omega] at le;have kwk:IntKind.i64.wrap ((k:Int)+1)=(k:Int)+1:=by rw[IntKind.wrap_i64];omega
 generalize(if c'=k+1 then a' else a'.map (·.add ((k+1)*7)))=a9 at eM le;obtain⟨i0,hi,eG,aI,et⟩:=info_parts cF;have lD:qL W1 rb (.slice a' n c') W1.drew:=⟨c3,lH (Below.refl _ _).drew⟩
 have ig:(W1.drew.alloc (.cells #[] 62)).ownsRow W1.heap.size 62 7 (.slice (some ⟨W1.heap.size,0,none⟩) 0 0) 0 []:=
  ⟨rfl,.inr ⟨W1.heap.size,0,#[],rfl,Nat.le_refl _,by show(W1.heap.push _)[W1.heap.size]? = _;simp,Nat.le_refl _,by unfold maxLen;omega,rfl,rfl⟩⟩
 have iL:=lH iu;have iy:=lH eM;clear iu eM aW iC;go_wp2_with fail
 refine zK (S:=qL W1 rb (.slice a' n c')) (T:=[17,18,19]) (by kernel_rfl) ?_;refine wT 0 ?_;refine wT 2 ?_;refine wT 3 ?_;refine wT 4 ?_;refine wT 5 ?_;refine wT 6 ?_;refine wT 7 ?_;refine wT 9 ?_;refine wT 10 ?_;refine wT 11 ?_;refine wT 12 ?_;refine wT 13 ?_;refine wT 14 ?_;refine wT 15 ?_;simp only[Act.put,aP,List.set];refine ze (i:=1) (by kernel_rfl) rfl (by kernel_rfl) ?_;intro K hK;go_simp
 have aF:=lD.alloc (.cells #[] 62);refine hK _ _ aF ?_;clear hK;refine ze (i:=8) (by kernel_rfl) rfl (by kernel_rfl) ?_;intro K hK;refine zz rfl _ _ _ rfl W1.heap.size 62 i0 _ 7 56 Tryz.underlying46 hi eG aI et rfl (by omega) (.slice (some ⟨W1.heap.size,0,none⟩) 0 0) 0 [] rfl ig a' k c' _ rfl (iL.out.below aF.2.out) (by unfold maxLen;omega) (by omega) (by simp) k (by omega) (zu (r.ts.take k)) (List.nil_append _) ?_;intro a1 q1 w1 ec el nk;have aC:=aF.grown io.out el (fun k hk=>Nat.le_of_eq (Option.some.inj hk));refine hK _ _ aC ?_;clear hK lD aF ig el nk;refine ze (i:=16) (by kernel_rfl) rfl (by kernel_rfl) ?_;intro K hK;refine zz rfl _ _ _ rfl W1.heap.size 62 i0 _ 7 56 Tryz.underlying46 hi eG aI et rfl (by omega) (.slice a1 k q1) k (zu (r.ts.take k)) rfl ec a9 (n-(k+1)) (c'-(k+1)) _ rfl (iy.out.below aC.2.out) (by unfold maxLen;omega) (by omega) aC.2.out.size (n-1) (by omega) (zu (r.ts.eraseIdx k)) (by rw[Du.out,xq]) ?_;intro a3 q3 w3 eK eI nU;have ip:=aC.grown io.out eI (fun k hk=>(ec.lt k hk).1);refine hK _ _ ip ?_;have f3':=(mD.out.below ip.2.out).live 1;have e3':=ip.1;clear hK aC eI nU ec;refine zk (i:=17) (by kernel_rfl) rfl (by kernel_rfl) ?_;intro K hK;go_simp
 refine hK _ _ ?_;clear hK;refine zk (i:=18) (by kernel_rfl) rfl (by kernel_rfl) ?_;intro K hK;go_simp
 refine hK _ _ ?_;clear hK;refine zk (i:=19) (by kernel_rfl) rfl (by kernel_rfl) ?_;intro K hK;go_simp
 refine hK _ _ ?_;clear hK;refine zy (by kernel_rfl) ?_ _;have ag:(r.ts.eraseIdx k).length=n-1:=by rw[List.length_eraseIdx_of_lt (by rw[HN.out];omega),HN.out]
 rw[<- ag] at eK;obtain⟨oF,pC⟩:=mD.out.rowNew ip.2.out eK;rw[ag] at oF pC;have au:=lH (And.intro oF (pM.out.trans pC));clear oF pC eK ag ip f3' e3' le c3;generalize w3.setCell ⟨rb,1,none⟩ (.slice a3 (n-1) q3)=W5 at au⊢;go_wp2_with fail
 go_ret
 exact⟨rfl,_,_,au.out.1,au.out.2⟩
theorem fy (rb:Nat) (B:RBk) (own:Nat->Option ROwn) (r:RSy) (id:Int) (k:Nat) (t:Tk) (W:World) (h:RAt W rb B own r) (aT:r.ts.length<=64) (hp:xr r.ts id=(k:Int)) (hk:r.ts[k]? = some t) (aG:t.state=2)
 (i:Nat) (ti:Int) (li:Ln) (hi:t.core=(i:Int)) (eB:i<r.cores.length) (lO:r.cores[i]! = (ti,li)) (lm:li.ps.length<=64) (hw:∀p∈li.ps,IntKind.i64.wrap (li.base-p.v)=li.base-p.v) (lp:¬yh li.ps id<0)
 (h0:0<=id) (h2:id<=4611686018427387904) (hz:xj r.ps) (hb:hasB r.ps id=true) :
 Calls Tryz.prog 32 #[.pointer (some ⟨rb,0,none⟩),I 6,I id] W fun e w'=>e=.returned (I 0)/\∃B' own',RAt w' rb B' own' ⟨r.cores.set i (ti,(zA li id).2.2),r.ts.eraseIdx k,r.gs,r.acc,(uq r.ps id).2⟩/\RStep own own' W w':=by
 have aE:=yd rb B own r id W h (by omega);rw[hp] at aE;obtain⟨g,n,c,hv,aw,ho,hn,k0,k1,k2,k3,k4,k5,k6⟩:=h.row_ hk;rw[<- hn] at hv aw;have c1:=h.c1;rw[hv] at c1;have aX:0<=(k:Int):=by omega
 have aS:(k:Int)<(n:Int):=by omega
 have iY:(k:Int)+1<=(n:Int):=by omega
 have iB:=fun W'=>wy 2 8 (by simp) (.inr (.inr (.inr rfl))) W';rw[show nxt 2 8=(6,0) by simp[nxt]] at iB;obtain⟨ey,eE,aI⟩:=wl W t;obtain⟨⟨b0,b1,b2,b3,b4,b5,b6⟩,bf⟩:=ey.cells;have Mc:=lH (fun W' (nb tb ob:Nat) (hN:NaAt W' nb tb ob r.ps)=>dP nb tb ob r.ps id W' hN h0 h2 hz hb);have HN:=lH hn.symm;have Du:Hid (r.ts.eraseIdx k=r.ts.take k++r.ts.drop (k+1)):=lH (List.eraseIdx_eq_take_drop_succ _ _);have ma:=fun W' (hq:QuAt W' B.qbs[i]! (B.qv i) ti li)=>uH B.qbs[i]! (B.qv i) ti li id W' hq lm hw lp;obtain⟨ca,cc,aQ,mA⟩:=h.coreCell;obtain⟨cg,rfl,nD,mg,oW⟩:=mA i eB;obtain⟨N,l6⟩:∃N,r.cores.length=N:=⟨_,rfl⟩
 have c0:=h.c0;rw[aQ,l6] at c0;have eF:=h.lt rb (by rw[h.osys];simp);have po:=h.oq i eB;have oP:=lH po;have sf:0<=(i:Int):=by omega
 have GA:(i:Int)<(N:Int):=by omega
 obtain⟨⟨lag,er,l'⟩,om⟩:∃x,zA li id=x:=⟨_,rfl⟩
 rw[om] at ma⊢;have c0':=(eE.cell (p:=⟨rb,0,none⟩) eF).trans c0;have gi':=(eE.cell (p:=⟨cg,i,none⟩) nD).trans oW;have oL:=((h.below eE).q i eB).below (Below.refl _ (xb W t)).drew;rw[lO] at oL;have mn:=ma (xb W t).drew oL;have ra:=lH (h.below (eE.drew));have HS1':=lH (RStep.below (own:=own) eE.drew);have oa:=lH eB;obtain⟨qi,pH⟩:∃x,B.qbs[i]! = x:=⟨_,rfl⟩
 rw[pH] at mn gi' oP;have sp:=lH pH;have FG:n<=64:=by omega
 obtain⟨tid,tw,tg,tc,tst,tm,tl⟩:=t;simp only at k0 k1 k2 k3 k4 k5 k6 b0 b1 b2 b3 b4 b5 b6 aG hi iB ra HS1' c0' gi' mn⊢;subst aG hi;clear h hk hv hn hp ho eE ey aI hz hb aT aw eB lO lm hw lp aQ mA nD mg oW l6 c0 eF po om ma oL pH;unfold xb at b0 b1 b2 b3 b4 b5 b6 bf c0' gi';go_enter Tryz.func32,Tryz.ntmps32;go_wp2_with fail
 refine aE.mono ?_;rintro e w1 ⟨rfl,rfl⟩;go_wp2_with fail
 refine(iB _).mono ?_;rintro e w1 ⟨rfl,rfl⟩;obtain⟨W8,Hz⟩:∃x,xb W ⟨tid,tw,tg,i,2,tm,tl⟩=x:=⟨_,rfl⟩
 rw[Hz] at ra HS1' mn;unfold xb at Hz;simp only at Hz;rw[Hz] at b0 b1 b2 b3 b4 b5 b6 bf c0' gi'⊢;clear Hz;go_wp2_with fail
 go_still_tail 9,(by kernel_rfl)
 change wpList _ _ _ _ _ (World.drew _);go_wp2_with fail
 refine mn.mono ?_;rintro e w9 ⟨rfl,v9,rh,iE,nK⟩;have mO:=ra.out.setQ oa.out (by rw[sp.out];exact rh) (iE.wider (fun k hk=>.inl (by rw[sp.out];exact hk))) (fun j hj=>.inr (nK j hj));have sH:RStep own (fun k=>if v9.ownBlock=some k then some (.qrow i) else own k) W w9:=HS1'.out.trans (RStep.more (x:=.qrow i) iE (fun k hk=>by rw[hk,oP.out];simp) (fun j hj=>.inr (nK j hj)))
 generalize(fun k=>if v9.ownBlock=some k then some (ROwn.qrow i) else own k)=own9 at mO sH;have mM:=lH mO;have ms:=lH sH;clear mO sH rh iE nK mn c0' gi' b0 b1 b2 b3 b4 b5 b6 bf aE iB k0 k1 k2 k3 k4 k5 k6 c1;generalize w9=W9 at mM ms⊢;have mj:=Mc.out W9 _ _ _ mM.out.names;have CG:=lH mM.out.lt;have c2:=mM.out.c2;go_wp2_with fail
 refine mj.mono ?_;rintro e w5 ⟨rfl,Hq,ip⟩;have mV:=mM.out.setN Hq ip;have pq:=ms.out.trans (RStep.keep ip (fun k hk=>by rcases hk with rfl | rfl | rfl;rw[mM.out.onb];simp;rw[mM.out.otb];simp;rw[mM.out.oob];simp))
 clear Hq ip mj;have mD:=lH mV;have pM:=lH pq;have aW:=mV.trow;have c3:=mV.c1;have io:=lH (mV.lt rb (by rw[mV.osys];simp));clear mV pq c2;generalize w5=W1 at mD pM aW c3 io⊢;obtain⟨a',c',iC,-⟩:=zH aW;rw[iC] at c3 aW;rw[HN.out] at c3 aW;have sV:(k:Int)<=(c':Int):=by
  rcases aW.2 with⟨e,-⟩ | ⟨g,cap,cur,e,-,-,AH,-⟩
  · simp only[Value.slice.injEq] at e;omega
  · simp only[Value.slice.injEq] at e;omega
 have AH:n<=c':=by
  rcases aW.2 with⟨e,-⟩ | ⟨g,cap,cur,e,-,-,AH,-⟩
  · simp only[Value.slice.injEq] at e;omega
  · simp only[Value.slice.injEq] at e;omega
 have iu:=(qF aW (wQ r.ts) k (by omega))
 have eM:=(vj aW (wQ r.ts) (k+1) (by omega))
 rw[kj r.ts k (by rw[HN.out];omega)] at iu;rw[kh r.ts (k+1) (by rw[HN.out];omega)] at eM;have le:=qp 46 62 7 Tryz.underlying46 (fun w=>Tryz.sizeOf62 w) a' n c' (k+1) (by omega);rw[show((k+1:Nat):Int)=(k:Int)+1 from by omega] at le;have kwk:IntKind.i64.wrap ((k:Int)+1)=(k:Int)+1:=by rw[IntKind.wrap_i64];omega
 generalize(if c'=k+1 then a' else a'.map (·.add ((k+1)*7)))=a9 at eM le;obtain⟨i0,hi,eG,aI,et⟩:=info_parts cF;have lD:qL W1 rb (.slice a' n c') W1.drew:=⟨c3,lH (Below.refl _ _).drew⟩
 have ig:(W1.drew.alloc (.cells #[] 62)).ownsRow W1.heap.size 62 7 (.slice (some ⟨W1.heap.size,0,none⟩) 0 0) 0 []:=
  ⟨rfl,.inr ⟨W1.heap.size,0,#[],rfl,Nat.le_refl _,by show(W1.heap.push _)[W1.heap.size]? = _;simp,Nat.le_refl _,by unfold maxLen;omega,rfl,rfl⟩⟩
 have iL:=lH iu;have iy:=lH eM;clear iu eM aW iC;go_wp2_with fail
 refine zK (S:=qL W1 rb (.slice a' n c')) (T:=[17,18,19]) (by kernel_rfl) ?_;refine wT 0 ?_;refine wT 2 ?_;refine wT 3 ?_;refine wT 4 ?_;refine wT 5 ?_;refine wT 6 ?_;refine wT 7 ?_;refine wT 9 ?_;refine wT 10 ?_;refine wT 11 ?_;refine wT 12 ?_;refine wT 13 ?_;refine wT 14 ?_;refine wT 15 ?_;simp only[Act.put,aP,List.set];refine ze (i:=1) (by kernel_rfl) rfl (by kernel_rfl) ?_;intro K hK;go_simp
 have aF:=lD.alloc (.cells #[] 62);refine hK _ _ aF ?_;clear hK;refine ze (i:=8) (by kernel_rfl) rfl (by kernel_rfl) ?_;intro K hK;refine zz rfl _ _ _ rfl W1.heap.size 62 i0 _ 7 56 Tryz.underlying46 hi eG aI et rfl (by omega) (.slice (some ⟨W1.heap.size,0,none⟩) 0 0) 0 [] rfl ig a' k c' _ rfl (iL.out.below aF.2.out) (by unfold maxLen;omega) (by omega) (by simp) k (by omega) (zu (r.ts.take k)) (List.nil_append _) ?_;intro a1 q1 w1 ec el nk;have aC:=aF.grown io.out el (fun k hk=>Nat.le_of_eq (Option.some.inj hk));refine hK _ _ aC ?_;clear hK lD aF ig el nk;refine ze (i:=16) (by kernel_rfl) rfl (by kernel_rfl) ?_;intro K hK;refine zz rfl _ _ _ rfl W1.heap.size 62 i0 _ 7 56 Tryz.underlying46 hi eG aI et rfl (by omega) (.slice a1 k q1) k (zu (r.ts.take k)) rfl ec a9 (n-(k+1)) (c'-(k+1)) _ rfl (iy.out.below aC.2.out) (by unfold maxLen;omega) (by omega) aC.2.out.size (n-1) (by omega) (zu (r.ts.eraseIdx k)) (by rw[Du.out,xq]) ?_;intro a3 q3 w3 eK eI nU;have ip:=aC.grown io.out eI (fun k hk=>(ec.lt k hk).1);refine hK _ _ ip ?_;have f3':=(mD.out.below ip.2.out).live 1;have e3':=ip.1;clear hK aC eI nU ec;refine zk (i:=17) (by kernel_rfl) rfl (by kernel_rfl) ?_;intro K hK;go_simp
 refine hK _ _ ?_;clear hK;refine zk (i:=18) (by kernel_rfl) rfl (by kernel_rfl) ?_;intro K hK;go_simp
 refine hK _ _ ?_;clear hK;refine zk (i:=19) (by kernel_rfl) rfl (by kernel_rfl) ?_;intro K hK;go_simp
 refine hK _ _ ?_;clear hK;refine zy (by kernel_rfl) ?_ _;have ag:(r.ts.eraseIdx k).length=n-1:=by rw[List.length_eraseIdx_of_lt (by rw[HN.out];omega),HN.out]
 rw[<- ag] at eK;obtain⟨oF,pC⟩:=mD.out.rowNew ip.2.out eK;rw[ag] at oF pC;have au:=lH (And.intro oF (pM.out.trans pC));clear oF pC eK ag ip f3' e3' le c3;generalize w3.setCell ⟨rb,1,none⟩ (.slice a3 (n-1) q3)=W5 at au⊢;go_wp2_with fail
 go_ret
 exact⟨rfl,_,_,au.out.1,au.out.2⟩
theorem ul (m:Int) (hm:0<=m/\m<65536) (k:Nat) (hk:k<16):(bits BinOp.and IntKind.u16 (m/2 ^ k) 1==0)=!zW m (k:Int):=by
 rw[gW m k hk];obtain⟨a,rfl⟩:=Int.eq_ofNat_of_zero_le hm.1;have e:(a:Int)/2 ^ k=((a/2 ^ k:Nat):Int):=by
  rw[Int.natCast_ediv];congr 1
 rw[e,Jz _ (Nat.lt_of_le_of_lt (Nat.div_le_self _ _) (by omega))];rcases Nat.mod_two_eq_zero_or_one (a/2 ^ k) with h | h <;> rw[h] <;> rfl
theorem WJ (rb:Nat) (B:RBk) (own:Nat->Option ROwn) (r:RSy) (id:Int) (k:Nat) (t:Tk) (i:Nat) (st:Int) (cs':List (Int×Ln)) (W:World) (h:RAt W rb B own r) (aT:r.ts.length<=64) (hp:xr r.ts id=(k:Int)) (hk:r.ts[k]? = some t) (aG:t.state=4) (c0:Nat) (eT:t.core=(c0:Int)) (lW:c0<16)
 (hm:0<=t.mask/\t.mask<65536) (hh:zW t.mask t.core=false) (hl:(zD (zE r) t.mask).1=(i:Int)) (lw:0<r.cores.length/\r.cores.length<=16) (hw:∀c∈r.cores,c.2.ps.length<=64/\∀p∈c.2.ps,0<=p.w/\p.w<=20)
 (aj:∀W',RAt W' rb B own r->Calls Tryz.prog 72 #[.pointer (some ⟨rb,0,none⟩),tkV (coT t i),.bool false] W' fun e w'=>e=.returned (.tuple #[tkV (stT (coT t i) st),I 0])/\∃B' own',RAt w' rb B' own' ⟨cs',r.ts,r.gs,r.acc,r.ps⟩/\RStep own own' W' w') :
 Calls Tryz.prog 32 #[.pointer (some ⟨rb,0,none⟩),I 5,I id] W fun e w'=>e=.returned (I 0)/\∃B' own',RAt w' rb B' own' ⟨cs',r.ts.set k (stT (coT t i) st),r.gs,r.acc,r.ps⟩/\RStep own own' W w':=by
 have eX:=ul t.mask hm c0 lW;rw[<- eT,hh] at eX;have aE:=yd rb B own r id W h (by omega);rw[hp] at aE;obtain⟨g,n,c,hv,aw,ho,hn,k0,k1,k2,k3,k4,k5,k6⟩:=h.row_ hk;rw[<- hn] at hv aw;have c1:=h.c1;rw[hv] at c1;have aX:0<=(k:Int):=by omega
 have aS:(k:Int)<(n:Int):=by omega
 have iB:=fun W'=>wy 4 5 (.inr (.inr (.inl rfl))) (.inr (.inr (.inl rfl))) W';rw[show nxt 4 5=(2,0) by simp[nxt]] at iB;obtain⟨ey,eE,aI⟩:=wl W t;obtain⟨⟨b0,b1,b2,b3,b4,b5,b6⟩,bf⟩:=ey.cells;have D4:=fun W' (hb:Below W.heap.size W W')=>uJ rb B own r W' (h.below hb) lw.2 hw;have tI:(zE r).length=r.cores.length:=by simp[zE]
 have mC:=fun W' g' c' (hg:g'<W'.heap.size) (hx:∀j,j<(zE r).length->W'.cell? ⟨g',j,none⟩=some (I ((zE r).getD j 0)))=>uI g' c' (zE r).length (zE r) t.mask hm W' rfl (by omega) hg hx;have me:=lH (show 0<(zE r).length by omega);have pz:=lH h;have oN:=lH aj;have HK:=lH hk;obtain⟨⟨lc,lb⟩,lI⟩:∃x,zD (zE r) t.mask=x:=⟨_,rfl⟩
 rw[lI] at hl mC;simp only at hl;subst hl;obtain⟨tid,tw,tg,tc,tst,tm,tl⟩:=t;simp only at k0 k1 k2 k3 k4 k5 k6 b0 b1 b2 b3 b4 b5 b6 aG hm mC ey eE aI eT eX⊢;subst aG eT;have rN:=wC c0 lW;have tU:=lH D4;have px:=lH mC;have ef:=lH eE;have nB:=lH ey;have nc:=lH aI;obtain⟨ls,pX⟩:∃x,zE r=x:=⟨_,rfl⟩
 rw[pX] at tU px me;have Ad:=h.lt;have sP:=lH Ad;clear h hk hv hn aw hp ho aj D4 mC lI hw lw tI eE ey aI pX Ad;unfold xb at b0 b1 b2 b3 b4 b5 b6 bf;go_enter Tryz.func32,Tryz.ntmps32;go_wp2_with fail
 refine aE.mono ?_;rintro e w1 ⟨rfl,rfl⟩;go_wp2_with fail
 refine(iB _).mono ?_;rintro e w1 ⟨rfl,rfl⟩;go_wp2_with fail
 obtain⟨W1,lu⟩:∃x,xb W ⟨tid,tw,tg,c0,4,tm,tl⟩=x:=⟨_,rfl⟩
 rw[lu] at ef nB nc;unfold xb at lu;simp only at lu;rw[lu] at b0 b1 b2 b3 b4 b5 b6 bf⊢;clear lu;have lr:W1.drew.cell? ⟨W.heap.size,5,none⟩=some (.int .u16 tm):=b5;go_region_held3 (fun W2=>W2.cell? ⟨W.heap.size,5,none⟩=some (.int .u16 tm)) (first | (with_reducible exact lr) | (with_reducible exact eo) | (with_reducible exact ny) | (with_reducible exact r8)) (first | (go_at_call 71;refine(tU.out W1.drew ef.out.drew).mono ?_;rintro e w9 ⟨v,rfl,iF,nw⟩;obtain⟨lg,lcap,rfl,D3⟩:=us iF me.out;have eo:w9.cell? ⟨W.heap.size,5,none⟩=some (.int .u16 tm):=(nw.cell (p:=⟨W.heap.size,5,none⟩) (by have:=nc.out;show W.heap.size<W1.heap.size;omega)).trans lr) | (go_at_call 70;refine(px.out w9 lg lcap (iF.lt lg rfl).2 D3).mono ?_;rintro e w8 ⟨rfl,sQ⟩;have ny:=(sQ.cell (p:=⟨W.heap.size,5,none⟩) (by have:=nc.out;have:=nw.size;have e3:W1.drew.heap.size=W1.heap.size:=rfl;show W.heap.size<w9.heap.size;omega)).trans eo;have rG:=nB.out.same (W':=w8) ((sQ.block W.heap.size (by have:=nc.out;have:=nw.size;have e3:W1.drew.heap.size=W1.heap.size:=rfl;omega)).trans (nw.block W.heap.size (by have:=nc.out;have e3:W1.drew.heap.size=W1.heap.size:=rfl;omega)));have x3:=rG.cells.1.2.2.2.1;have xf:=rG.cells.2 3;simp only at x3;have r8:(w8.setCell ⟨W.heap.size,3,none⟩ (I i)).cell? ⟨W.heap.size,5,none⟩=some (.int .u16 tm):=by rw[za _ (by simp)];exact ny) | fail)
 have Br:Below W.heap.size W w8:=ef.out.drew.trans ((nw.mono ef.out.size).trans (sQ.mono (Nat.le_trans ef.out.size nw.size)))
 have Eu:W.heap.size+2<=w8.heap.size:=by have:=nc.out;have:=nw.size;have:=sQ.size;have e3:W1.drew.heap.size=W1.heap.size:=rfl;omega
 have mP:Below W.heap.size W (w8.setCell ⟨W.heap.size,3,none⟩ (I i)):=Br.setCell (p:=⟨W.heap.size,3,none⟩) (Nat.le_refl _) _;have Ay:=rG.core (i:Int);have s9:Hid (W.heap.size+2<=(w8.setCell ⟨W.heap.size,3,none⟩ (I i)).heap.size):=lH (by simpa using Eu);clear Br Eu rG x3 xf r8 ny eo sQ nw iF D3 lr b0 b1 b2 b3 b4 b5 b6 bf;generalize w8.setCell ⟨W.heap.size,3,none⟩ (I i)=W8 at mP Ay s9⊢;have aj:=oN.out W8 (pz.out.below mP);unfold coT stT at aj;simp only at aj;obtain⟨⟨x0,x1,x2,x3,x4,x5,x6⟩,-⟩:=Ay.cells;simp only[coT] at x0 x1 x2 x3 x4 x5 x6;have GN:=lH mP;have tT:=lH Ay;clear mP Ay;go_wp2_with fail
 refine aj.mono ?_;rintro e w5 ⟨rfl,B',own',mV,pq⟩;have mz:w5.heap[W.heap.size]? = W8.heap[W.heap.size]?:=pq.touch.block _ (by have:=s9.out;omega) (fun hh=>by have:=sP.out _ hh;omega);have mY:=tT.out.same mz;obtain⟨⟨y0,y1,y2,y3,y4,y5,y6⟩,yf⟩:=mY.cells;simp only[coT] at y0 y1 y2 y3 y4 y5 y6;have f0:=yf 0;have f1:=yf 1;have f2:=yf 2;have f3:=yf 3;have f4:=yf 4;have f5:=yf 5;have f6:=yf 6;have pu:=lH mY;have Dv:=lH mV;have pM:=lH ((RStep.below GN.out).trans pq);have Bn:∀k,own' k≠none->own k≠none\/W8.heap.size<=k:=pq.new;clear mY mV pq yf mz aj x0 x1 x2 x3 x4 x5 x6;go_wp2_with fail
 have hp:=qm pu.out ⟨tid,tw,tg,i,st,tm,tl⟩;have al:∀k,own' k≠none->k≠W.heap.size:=fun k hk e=>by
  rcases Bn k hk with h | h
  · have:=sP.out k h;omega
  · have:=s9.out;omega
 have mW:=Dv.out.same (W':=xA w5 W.heap.size ⟨tid,tw,tg,i,st,tm,tl⟩) (Nat.le_of_eq qA.symm) (fun k hk=>uF k (al k hk));have rS:RStep own own' W (xA w5 W.heap.size ⟨tid,tw,tg,i,st,tm,tl⟩):=⟨pM.out.new,uG pM.out.touch (.inr (Nat.le_refl _))⟩
 change Code.wp _ _ _ _ (xA w5 W.heap.size ⟨tid,tw,tg,i,st,tm,tl⟩);generalize xA w5 W.heap.size ⟨tid,tw,tg,i,st,tm,tl⟩=W6 at hp mW rS⊢;obtain⟨⟨z0,z1,z2,z3,z4,z5,z6⟩,-⟩:=hp.cells;simp only at z0 z1 z2 z3 z4 z5 z6;obtain⟨g',n',c',iC,iJ,nz,oo,r0,r1,r2,r3,r4,r5,r6⟩:=mW.row_ HK.out;have n9:=iC;rw[<- oo] at iC;simp only at iJ oo;have c1':=mW.c1;rw[iC] at c1';have lz:(k:Int)<(n':Int):=by omega
 have fr:=mW.freeT n9;have q0:=fr (k*7);have q1:=fr (k*7+1);have q2:=fr (k*7+2);have q3:=fr (k*7+3);have q4:=fr (k*7+4);have q5:=fr (k*7+5);have q6:=fr (k*7+6);have mj:=(mW.taskRow n9 ⟨tid,tw,tg,i,st,tm,tl⟩ HK.out).below (Below.refl _ _).drew;have rm:=RStep.trans rS (RStep.keep (own:=own') (vQ (F:=fun k=>k=g') (g:=g') (k:=k) (t:=⟨tid,tw,tg,i,st,tm,tl⟩) (Touch.refl _ W6) (.inl rfl)).drew (fun k hk=>by rw[hk,nz];simp));have au:=lH (And.intro mj rm);clear mW rS hp fr n9 iC oo iJ nz al y0 y1 y2 y3 y4 y5 y6 f0 f1 f2 f3 f4 f5 f6 aE iB k0 k1 k2 k3 k4 k5 k6 c1 mj rm;simp only at r0 r1 r2 r3 r4 r5 r6;go_still_tail 7,(by kernel_rfl)
 change wpList _ _ _ _ _ (World.drew _);go_wp2_with fail
 change bodyPost _ _ _ _ _ (World.drew (jo W6 g' k ⟨tid,tw,tg,i,st,tm,tl⟩));generalize World.drew (jo W6 g' k ⟨tid,tw,tg,i,st,tm,tl⟩)=Wf at au⊢;go_ret
 exact⟨rfl,_,_,au.out.1,au.out.2⟩
theorem f7 (rb:Nat) (B:RBk) (own:Nat->Option ROwn) (r:RSy) (id:Int) (k:Nat) (t:Tk) (st:Int) (cs':List (Int×Ln)) (W:World) (h:RAt W rb B own r) (aT:r.ts.length<=64) (hp:xr r.ts id=(k:Int)) (hk:r.ts[k]? = some t) (aG:t.state=4) (c0:Nat) (eT:t.core=(c0:Int)) (lW:c0<16)
 (hm:0<=t.mask/\t.mask<65536) (hh:zW t.mask t.core=true)
 (aj:∀W',RAt W' rb B own r->Calls Tryz.prog 72 #[.pointer (some ⟨rb,0,none⟩),tkV (t),.bool false] W' fun e w'=>e=.returned (.tuple #[tkV (stT (t) st),I 0])/\∃B' own',RAt w' rb B' own' ⟨cs',r.ts,r.gs,r.acc,r.ps⟩/\RStep own own' W' w') :
 Calls Tryz.prog 32 #[.pointer (some ⟨rb,0,none⟩),I 5,I id] W fun e w'=>e=.returned (I 0)/\∃B' own',RAt w' rb B' own' ⟨cs',r.ts.set k (stT (t) st),r.gs,r.acc,r.ps⟩/\RStep own own' W w':=by
 have eX:=ul t.mask hm c0 lW;rw[<- eT,hh] at eX;have aE:=yd rb B own r id W h (by omega);rw[hp] at aE;obtain⟨g,n,c,hv,aw,ho,hn,k0,k1,k2,k3,k4,k5,k6⟩:=h.row_ hk;rw[<- hn] at hv aw;have c1:=h.c1;rw[hv] at c1;have aX:0<=(k:Int):=by omega
 have aS:(k:Int)<(n:Int):=by omega
 have iB:=fun W'=>wy 4 5 (.inr (.inr (.inl rfl))) (.inr (.inr (.inl rfl))) W';rw[show nxt 4 5=(2,0) by simp[nxt]] at iB;obtain⟨ey,eE,aI⟩:=wl W t;obtain⟨⟨b0,b1,b2,b3,b4,b5,b6⟩,bf⟩:=ey.cells;have pz:=lH h;have oN:=lH aj;have HK:=lH hk;obtain⟨tid,tw,tg,tc,tst,tm,tl⟩:=t;simp only at k0 k1 k2 k3 k4 k5 k6 b0 b1 b2 b3 b4 b5 b6 aG hm ey eE aI eT eX⊢;subst aG eT;have rN:=wC c0 lW;have ef:=lH eE;have nB:=lH ey;have nc:=lH aI;have Ad:=h.lt;have sP:=lH Ad;clear h hk hv hn aw hp ho aj eE ey aI Ad;unfold xb at b0 b1 b2 b3 b4 b5 b6 bf;go_enter Tryz.func32,Tryz.ntmps32;go_wp2_with fail
 refine aE.mono ?_;rintro e w1 ⟨rfl,rfl⟩;go_wp2_with fail
 refine(iB _).mono ?_;rintro e w1 ⟨rfl,rfl⟩;go_wp2_with fail
 obtain⟨W1,lu⟩:∃x,xb W ⟨tid,tw,tg,c0,4,tm,tl⟩=x:=⟨_,rfl⟩
 rw[lu] at ef nB nc;unfold xb at lu;simp only at lu;rw[lu] at b0 b1 b2 b3 b4 b5 b6 bf⊢;clear lu;have s9:Hid (W.heap.size+2<=W1.heap.size):=lH (Nat.le_of_eq nc.out.symm);have mP:=ef.out;have Ay:=nB.out;clear b0 b1 b2 b3 b4 b5 b6 bf;have aj:=oN.out W1 (pz.out.below mP);unfold stT at aj;simp only at aj;obtain⟨⟨x0,x1,x2,x3,x4,x5,x6⟩,-⟩:=Ay.cells;simp only at x0 x1 x2 x3 x4 x5 x6;have GN:=lH mP;have tT:=lH Ay;clear mP Ay;go_wp2_with fail
 refine aj.mono ?_;rintro e w5 ⟨rfl,B',own',mV,pq⟩;have mz:w5.heap[W.heap.size]? = W1.heap[W.heap.size]?:=pq.touch.block _ (by have:=s9.out;omega) (fun hh=>by have:=sP.out _ hh;omega);have mY:=tT.out.same mz;obtain⟨⟨y0,y1,y2,y3,y4,y5,y6⟩,yf⟩:=mY.cells;simp only at y0 y1 y2 y3 y4 y5 y6;have f0:=yf 0;have f1:=yf 1;have f2:=yf 2;have f3:=yf 3;have f4:=yf 4;have f5:=yf 5;have f6:=yf 6;have pu:=lH mY;have Dv:=lH mV;have pM:=lH ((RStep.below GN.out).trans pq);have Bn:∀k,own' k≠none->own k≠none\/W1.heap.size<=k:=pq.new;clear mY mV pq yf mz aj x0 x1 x2 x3 x4 x5 x6;go_wp2_with fail
 have hp:=qm pu.out ⟨tid,tw,tg,c0,st,tm,tl⟩;have al:∀k,own' k≠none->k≠W.heap.size:=fun k hk e=>by
  rcases Bn k hk with h | h
  · have:=sP.out k h;omega
  · have:=s9.out;omega
 have mW:=Dv.out.same (W':=xA w5 W.heap.size ⟨tid,tw,tg,c0,st,tm,tl⟩) (Nat.le_of_eq qA.symm) (fun k hk=>uF k (al k hk));have rS:RStep own own' W (xA w5 W.heap.size ⟨tid,tw,tg,c0,st,tm,tl⟩):=⟨pM.out.new,uG pM.out.touch (.inr (Nat.le_refl _))⟩
 change Code.wp _ _ _ _ (xA w5 W.heap.size ⟨tid,tw,tg,c0,st,tm,tl⟩);generalize xA w5 W.heap.size ⟨tid,tw,tg,c0,st,tm,tl⟩=W6 at hp mW rS⊢;obtain⟨⟨z0,z1,z2,z3,z4,z5,z6⟩,-⟩:=hp.cells;simp only at z0 z1 z2 z3 z4 z5 z6;obtain⟨g',n',c',iC,iJ,nz,oo,r0,r1,r2,r3,r4,r5,r6⟩:=mW.row_ HK.out;have n9:=iC;rw[<- oo] at iC;simp only at iJ oo;have c1':=mW.c1;rw[iC] at c1';have lz:(k:Int)<(n':Int):=by omega
 have fr:=mW.freeT n9;have q0:=fr (k*7);have q1:=fr (k*7+1);have q2:=fr (k*7+2);have q3:=fr (k*7+3);have q4:=fr (k*7+4);have q5:=fr (k*7+5);have q6:=fr (k*7+6);have mj:=(mW.taskRow n9 ⟨tid,tw,tg,c0,st,tm,tl⟩ HK.out).below (Below.refl _ _).drew;have rm:=RStep.trans rS (RStep.keep (own:=own') (vQ (F:=fun k=>k=g') (g:=g') (k:=k) (t:=⟨tid,tw,tg,c0,st,tm,tl⟩) (Touch.refl _ W6) (.inl rfl)).drew (fun k hk=>by rw[hk,nz];simp));have au:=lH (And.intro mj rm);clear mW rS hp fr n9 iC oo iJ nz al y0 y1 y2 y3 y4 y5 y6 f0 f1 f2 f3 f4 f5 f6 aE iB k0 k1 k2 k3 k4 k5 k6 c1 mj rm;simp only at r0 r1 r2 r3 r4 r5 r6;go_still_tail 7,(by kernel_rfl)
 change wpList _ _ _ _ _ (World.drew _);go_wp2_with fail
 change bodyPost _ _ _ _ _ (World.drew (jo W6 g' k ⟨tid,tw,tg,c0,st,tm,tl⟩));generalize World.drew (jo W6 g' k ⟨tid,tw,tg,c0,st,tm,tl⟩)=Wf at au⊢;go_ret
 exact⟨rfl,_,_,au.out.1,au.out.2⟩
end
def RQ (rb:Nat) (own:Nat->Option ROwn) (s':Sy) (W w':World):Prop:=∃B' own' r',RAt w' rb B' own' r'/\Rel s' r'/\RStep own own' W w'
theorem RQ.of {rb:Nat} {B:RBk} {own:Nat->Option ROwn} {r:RSy} {s:Sy} {W w':World} (h:RAt W rb B own r) (hr:Rel s r) (hb:Below W.heap.size W w'):RQ rb own s W w':=⟨B,own,r,h.below hb,hr,RStep.below hb⟩
section
variable {k n:Nat} {b:Int} {s:Sy} {r:RSy}
theorem InvY.nums (hI:InvY k b n s) (hk:k<=400) (hb:b<=1000000000000000000) {i:Nat} (hi:i<n):s.cores[i]!.l.ps.length<=64/\(-1152921504606846976<=s.cores[i]!.l.base/\s.cores[i]!.l.base<=1152921504606846976) /\
 (∀p∈s.cores[i]!.l.ps,(-93117024000<=s.cores[i]!.l.base-p.v/\s.cores[i]!.l.base-p.v<=93117024000)/\1<=p.w/\p.w<=20):=by
 have hl:=hI.line i hi;refine⟨(hI.len64 i hi).1,by have:=hl.base;omega,fun p hp=>⟨?_,hl.w p hp⟩⟩;have:=hl.lag p hp;omega
theorem InvY.wrapL (hI:InvY k b n s) (hk:k<=400) (hb:b<=1000000000000000000) {i:Nat} (hi:i<n):∀p∈s.cores[i]!.l.ps,IntKind.i64.wrap (s.cores[i]!.l.base-p.v)=s.cores[i]!.l.base-p.v:=fun p hp=>by
 have:=((hI.nums hk hb hi).2.2 p hp).1;rw[IntKind.wrap_i64];omega
theorem InvY.loadsOk (hI:InvY k b n s) (hk:k<=400) (hb:b<=1000000000000000000) (hR:Rel s r):(0<r.cores.length/\r.cores.length<=16)/\∀c∈r.cores,c.2.ps.length<=64/\∀p∈c.2.ps,0<=p.w/\p.w<=20:=by
 have h8:=hI.n8;refine⟨by rw[hR.len,hI.len];omega,fun c hc=>?_⟩;obtain⟨i,hi,rfl⟩:=List.mem_iff_getElem.1 hc;have aN:i<n:=by rw[hR.len,hI.len] at hi;exact hi
 have:=(hR.core (by rw[hI.len];exact aN)).2;rw[getElem!_pos _ i hi] at this;rw[this];obtain⟨h1,-,h3⟩:=hI.nums hk hb aN;exact⟨h1,fun p hp=>by have:=(h3 p hp).2;omega⟩
theorem InvY.tag (hI:InvY k b n s) (hR:Rel s r) {i:Nat} (hi:i<n):s.cores[i]!.tag=0\/s.cores[i]!.tag=1\/s.cores[i]!.tag=2:=by
 have hl:i<s.cores.length:=by rw[hI.len];exact hi
 rw[getElem!_pos _ i hl];exact hR.tags _ (List.getElem_mem hl)
theorem vu {c:Co} {id w lag:Int} {x:Bool} (h:(zg c id w lag x).1=0):zP c.l id w lag=0/\(zg c id w lag x).2.tag=c.tag/\(zg c id w lag x).2.l=xR c.l id w (if x=true then lag else yy c.tag lag):=by
 unfold zg at h⊢;by_cases e:zP c.l id w lag=0
 · rw[if_pos e] at h⊢;exact⟨e,rfl,rfl⟩
 · rw[if_neg e] at h;exact absurd h e
theorem Rel.enter (hR:Rel s r) {x:Int} {u:Tk} (hu:s.tasks x=some u) (hid:u.id=x) {j:Nat} {t:Tk} (hj:r.ts[j]? = some t) (hS:SamT u t) {i:Nat} (hi:i<s.cores.length) {ex:Bool} {u':Tk} (FX:u'.id=x) (hl:u.lag=t.lag)
 (h0:(zg s.cores[i]! u.id u.w u.lag ex).1=0) {t':Tk} (tq:SamT u' t') :
 Rel (setTk (zN s i (zg s.cores[i]! u.id u.w u.lag ex).2) x u') ⟨r.cores.set i (s.cores[i]!.tag,xR s.cores[i]!.l t.id t.w (if ex=true then t.lag else yy s.cores[i]!.tag t.lag)),r.ts.set j t',r.gs,r.acc,r.ps⟩:=by
 obtain⟨-,e2,e3⟩:=vu h0;have h1:=hR.coreSet i (zg s.cores[i]! u.id u.w u.lag ex).2 hi e2;have h2:=h1.task (x:=x) (u:=u) hu hj hS hid tq FX;rw[e2,e3] at h2;rw[hS.id,hS.w,<- hl];exact h2
end
section
attribute [local go_sem] Oper.semAt_some
theorem Kg:(Tryz.prog.info? 156).map (fun i=>(i.zero,i.size,i.bytes))=some (some (.agg #[I 0,I 0]),2,16):=by kernel_rfl
theorem XX {sv:List (Int×Int)} {k:Nat} {x:Int×Int} (h:sv[k]? = some x):(vg sv)[k*2]? = some (I x.1)/\(vg sv)[k*2+1]? = some (I x.2):=by
 induction sv generalizing k with
 | nil=>simp at h
 | cons a l ih=>
  cases k with
  | zero=>simp at h;subst h;exact⟨rfl,rfl⟩
  | succ k=>
   have:=ih (k:=k) (by simpa using h);rw[show(k+1)*2=k*2+1+1 by omega];simpa [vg] using this
theorem XZ {sv:List (Int×Int)} {k:Nat} {x:Int×Int} (h:sv[k]? = some x) (y:Int):(vg sv).set (k*2+1) (I y)=vg (sv.set k (x.1,y)):=by
 induction sv generalizing k with
 | nil=>simp at h
 | cons a l ih=>
  cases k with
  | zero=>simp at h;subst h;rfl
  | succ k=>
   have:=ih (k:=k) (by simpa using h);rw[show(k+1)*2+1=(k*2+1)+1+1 by omega];simpa [vg] using this
theorem cD (a b:List (Int×Int)):vg (a++b)=vg a++vg b:=by simp[vg]
def VP (W:World) (v:Value) (ids:List Int):Prop:=∃sv:List (Int×Int),sv.map (·.1)=ids/\W.ownsRow 0 156 2 v sv.length (vg sv)
theorem VP.form {W:World} {v:Value} {ids:List Int} (h:VP W v ids):∃a c,v=.slice a ids.length c/\∀k (hk:k<ids.length),∃g n,a=some ⟨g,0,none⟩/\g<W.heap.size/\W.cell? ⟨g,k*2,none⟩=some (I ids[k])/\W.cell? ⟨g,k*2+1,none⟩=some (I n) /\
 (∀i,W.frozen? ⟨g,i,none⟩=false)/\v.ownBlock=some g/\∀y,VP (W.setCell ⟨g,k*2+1,none⟩ (I y)) v ids:=by
 obtain⟨sv,rfl,hr⟩:=h;obtain⟨a,c,rfl,ae⟩:=zH hr;refine⟨a,c,by rw[List.length_map],fun k hk=>?_⟩;rw[List.length_map] at hk;obtain⟨h1,h2⟩:=XX (List.getElem?_eq_getElem hk);obtain⟨g,rfl,g1,g2,hc⟩:=ae _ _ h1;obtain⟨g',ic,-,-,oe⟩:=ae _ _ h2;simp only[Option.some.injEq,Addr.mk.injEq,and_true] at ic;subst ic;refine⟨g,sv[k].2,rfl,g2,by simpa using hc,oe,fun i=>?_,rfl,fun y=>⟨sv.set k (sv[k].1,y),?_,?_⟩⟩
 · rcases hr.2 with⟨e,_⟩ | ⟨g',cap',cur,e,hb,la,-⟩
   · cases e
   · simp only[Value.slice.injEq,Option.some.injEq,Addr.mk.injEq] at e;obtain⟨⟨rfl,-⟩,-⟩:=e;simp only[World.frozen?,la];simp
 · rw[List.map_set];simp only
   have:(sv.map (·.1))[k]'(by simpa using hk)=sv[k].1:=by simp
   rw[<- this,List.set_getElem_self]
 · have:=wh (u:=I y) (j:=k*2+1) hr (by rw[XY];omega);rw[XZ (List.getElem?_eq_getElem hk)] at this;rw[List.length_set];exact this
end
end Go.Proofs.YtoiajjobecinpaaGreat
