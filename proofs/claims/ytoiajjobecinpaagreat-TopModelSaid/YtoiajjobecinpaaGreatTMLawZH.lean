/- The law. -/
import Derived.Test.YtoiajjobecinpaaGreatTM42
import Derived.Test.YtoiajjobecinpaaGreatTM45
set_option maxHeartbeats 4000000
set_option maxRecDepth 100000
namespace Go.Proofs.YtoiajjobecinpaaGreat
open Go.RowKit Go.Shelf Go.Lib Go.Proofs
set_option linter.unusedVariables false
set_option linter.unusedSimpArgs false
section
attribute [local go_sem] Oper.semAt_some
def QK (W:World) (ob rb n k:Nat) (wr:World):Prop:=∃(q:Nat) (s:Sy),q<=k/\wG W ob rb n q s s wr
abbrev ZG (g o:Nat) (op a b c n m:Int) (bl:Value) (w:World):Prop:=
 w.cell? ⟨g,o,none⟩=some (I op)/\w.cell? ⟨g,o+1,none⟩=some (I a)/\w.cell? ⟨g,o+2,none⟩=some (I b)/\w.cell? ⟨g,o+3,none⟩=some (I c)/\w.cell? ⟨g,o+4,none⟩=some (I n)/\w.cell? ⟨g,o+5,none⟩=some (I m)/\w.cell? ⟨g,o+6,none⟩=some bl
theorem ZG.below {W W':World} {g o:Nat} {op a b c n m:Int} {bl:Value} (h:ZG g o op a b c n m bl W) (hb:Below W.heap.size W W') (hg:g<W.heap.size):ZG g o op a b c n m bl W':=by
 obtain⟨k0,k1,k2,k3,k4,k5,k6⟩:=h;have hc:∀i,W'.cell? ⟨g,i,none⟩=W.cell? ⟨g,i,none⟩:=fun i=>World.cell?_of_block (a:=⟨g,i,none⟩) (hb.block g hg);exact⟨(hc _).trans k0,(hc _).trans k1,(hc _).trans k2,(hc _).trans k3,(hc _).trans k4,(hc _).trans k5,(hc _).trans k6⟩
abbrev TmS (W1:World) (bx gf j rb gi qb tn c1 n qf cc:Nat) (pf:Option Addr) (cu:Int) (W2:World):Prop:=
 Below W1.heap.size W1 W2/\W2.cell? ⟨bx,1,none⟩=some (.slice (some ⟨gf,0,none⟩) tn c1)/\W2.cell? ⟨gf,j*2,none⟩=some (I cu)/\W2.cell? ⟨gf,j*2+1,none⟩=some (.slice pf n qf)/\W2.cell? ⟨rb,0,none⟩=some (.slice (some ⟨gi,0,none⟩) tn cc)/\W2.cell? ⟨gi,j,none⟩=some (.pointer (some ⟨qb,0,none⟩))
theorem TmS.step {W1:World} {bx gf j rb gi qb tn c1 n qf cc:Nat} {pf:Option Addr} {cu:Int} {W2 W3:World} (h:TmS W1 bx gf j rb gi qb tn c1 n qf cc pf cu W2) (hb:Below W2.heap.size W2 W3):TmS W1 bx gf j rb gi qb tn c1 n qf cc pf cu W3:=
 ⟨h.1.trans (hb.mono h.1.size),ga hb h.2.1,ga hb h.2.2.1,ga hb h.2.2.2.1,ga hb h.2.2.2.2.1,ga hb h.2.2.2.2.2⟩
theorem Wv (tp:Option Addr) (tn tc:Nat) (zs:List Int) (p:Option Addr) (len c:Nat) (W:World) (ht:qV W tp tn zs) (hl:uR W p len) :
 Calls Tryz.prog 3 #[.slice tp tn tc,.slice p len c] W fun e w'=>e=.returned (.bool true)/\Below W.heap.size W w':=by
 have Pk:=ZQ W;have HT:=lH ht;have HL:=lH hl;clear ht hl;go_enter Tryz.func3,Tryz.ntmps3;go_wp2_with fail
 refine Pk.mono ?_;rintro e w0 ⟨rfl,lk⟩;have lF:=lH lk;have Fo:=Kb w0 tp tn tc p len c (HL.out.below lk);clear lk Pk;go_wp2_with fail
 refine Fo.mono ?_;rintro e w1 ⟨f,rfl,rfl,hf⟩;cases f with
 | true=>
  clear hf Fo;go_wp2_with fail
  go_ret
  exact⟨rfl,lF.out⟩
 | false=>
  obtain⟨t8,l150,few⟩:=hf rfl;have Ls:=lH (HT.out.below lF.out);have HF:=lH (And.intro t8 (And.intro l150 few));clear hf Fo l150 few;by_cases BA:ZM tn zs
  · have Lf:=lH BA;have mF:=(bY w0 tp tn tc zs Ls.out t8 BA).1;clear BA;go_wp2_with fail
    refine mF.mono ?_;rintro e w1 ⟨ob,rfl,lu,OS⟩;have m9:=(bY w1 tp tn tc zs (Ls.out.below lu.bel) t8 Lf.out).2;have Hd:=lH lu;clear mF lu OS;go_wp2_with fail
    refine m9.mono ?_;rintro e w2 ⟨rb,rfl,O5⟩;have lL:Hid (QK w0 ob rb tn 0 w2):=lH ⟨0,_,Nat.le_refl _,VY Hd.out O5 (fun k hk=>Lf.out.2 k (by rw[wt] at hk;exact hk))⟩;clear m9 O5;go_wp2_with fail
    go_loopw [9] (fun x wr=>∃k:Nat,k<=len/\x=I k/\Hid (QK w0 ob rb tn k wr)) (fun x _=>len-(intOf x).toNat)
    case atStart=>exact⟨0,Nat.zero_le _,rfl,lL⟩
    case round=>
     obtain⟨k,hk,rfl,HR⟩:=hrel;have aX:0<=(k:Int):=by omega
     have PG:=HF.out.2.1;by_cases aS:(k:Int)<(len:Int)
     · obtain⟨q,s,Cq,nS⟩:=HR.out;have iW:=nS.bel;obtain⟨g,o,rfl,g1,op,a,b,c',n,m,bl,nb,Fa,⟨⟨aa1,aa2⟩,n2⟩,i9⟩:=HL.out k (by omega);have g2:g<w0.heap.size:=Nat.lt_of_lt_of_le g1 lF.out.size;have tX:ZG g (o+k*7) op a b c' n m bl w0:=ZG.below Fa lF.out g1;have Ou:=lH tX;have oO:=lH g2;have MP:=tX.below iW g2;by_cases nN:13<=op/\op<=16
       · have EN:Hid (QK w0 ob rb tn (k+1) wr):=lH ⟨q,s,by omega,nS⟩;obtain⟨o1,o2⟩:=nN;obtain⟨d0,-⟩:=MP;clear nS iW Fa i9 tX HR;go_wp2_with fail
         go_roundw
         case rel=>exact⟨k+1,by omega,by go_num,EN⟩
         case measure=>simp[intOf];omega
       · have HI:=lH nS.inv;have RS:=lH nS.root;have Nh:=(nS.below (Below.refl _ wr).drew).goes (by omega) op a b c' n m bl nN aa1 aa2 n2;unfold yo at Nh;have RJ:=lH nN;have oC:=lH n2;have HQ:=lH Cq;have lr:ZG g (o+k*7) op a b c' n m bl wr.drew:=MP;obtain⟨d0,-⟩:=MP;clear nS iW Fa i9 tX HR aa1 aa2 n2;have oU:op<13\/(13<=op/\16<op):=by omega
         clear nN;rcases oU with ho | ⟨ho,pY⟩
         all_goals
          go_wp2_with fail
          go_region_held3 (ZG g (o+k*7) op a b c' n m bl) (first | (with_reducible exact lr) | (with_reducible exact sS) | (with_reducible exact AX)) (first | (go_at_call 13;refine Nh.mono ?_;rintro e w5 ⟨x5,y5,s5,rfl,En,MQ⟩;have sS:=Ou.out.below MQ.bel oO.out;have sE:=MQ.ref (fun B ro r hA hR=>WC hA hR HI.out (by omega) (by omega) RS.out op a b c' n m x5 y5 bl s5 RJ.out oC.out En);unfold yo at sE;generalize(if y5=0 then x5 else 0)=v5 at sE⊢) | (go_at_call 14;refine sE.mono ?_;rintro e w6 ⟨rfl,DB⟩;have AX:=Ou.out.below DB.bel oO.out) | fail)
          have EN:Hid (QK w0 ob rb tn (k+1) w6):=lH ⟨q+1,s5,by have:=HQ.out;omega,DB⟩;clear MQ DB lr sS AX sE Nh En;go_wp2_with fail
          go_roundw
          case rel=>exact⟨k+1,by omega,by go_num,EN⟩
          case measure=>simp[intOf];omega
     · obtain rfl:k=len:=by omega
       obtain⟨q,s,Cq,nS⟩:=HR.out;have aG:=dE w0 wr ob tn q s nS.law (by omega);have hI:=nS.inv;obtain⟨wb,sb,mm,cbs,L,own,ow,B,ro,r,-,Hr,nT,Bc,-,-,-⟩:=nS;have ah:=nT.len_ts hI;obtain⟨T,hT⟩:∃T,(zf s.ps).length=T:=⟨_,rfl⟩
       rw[hT] at aG ah;obtain⟨G,hG⟩:∃G,(xD s 16).length=G:=⟨_,rfl⟩
       rw[hG] at aG;have aM:=fun w (hb:Below wr.heap.size wr w)=>UU rb B ro r w (Hr.below hb) (nT.few hI) (UY nT hI (by omega) (by omega));rw[ah] at aM;have Sx:T<=64:=by have:=nT.few hI;omega
       have HI:=lH hI;have Aq:=lH Hr;have mf:=lH nT;have Ey:=lH Bc;have Gg:=lH ah;have od:=lH hT;have sY:=lH aM;have Lq:=lH Cq;clear hI Hr nT Bc ah hT hG aM Cq HR lL;go_wp2_with fail
       refine aG.mono ?_;rintro e w5 ⟨a0,a1,a2,a3,a4,c0,c1,c2,c3,c4,fl,P,rfl,LS,hf,rR,mY⟩;have aM:=sY.out w5 mY;have ra:=lH LS;have Am:=lH hf;have nL:=lH rR.f;have pu:=lH mY;clear aG LS hf rR mY;go_wp2_with fail
       refine aM.mono ?_;rintro e w6 ⟨v,rfl,aa,CQ⟩;have DC:Below w6.heap.size w6 (w6.alloc (.cells #[.slice a0 tn c0,.slice a1 tn c1,.slice a2 T c2,.slice a3 G c3,.slice a4 G c4] 44)):=(Below.refl _ _).alloc (Nat.le_refl _) _;have Bb:Below w5.heap.size w5 (w6.alloc (.cells #[.slice a0 tn c0,.slice a1 tn c1,.slice a2 T c2,.slice a3 G c3,.slice a4 G c4] 44)):=CQ.trans (DC.mono CQ.size)
       have EX:Below wr.heap.size wr (w6.alloc (.cells #[.slice a0 tn c0,.slice a1 tn c1,.slice a2 T c2,.slice a3 G c3,.slice a4 G c4] 44)):=pu.out.trans (Bb.mono pu.out.size)
       obtain⟨xa,xc,hv,hx⟩:=zH (zb aa (fun j hj=>DC.block j (aa.lt j hj).2));subst hv;have HX:=lH hx.f;have EI:=lH (ra.out.below Bb);have EJ:=lH (nL.out.below Bb);have GS:Hid (∀c,c<tn->∃p q,(wK fl)[c*2]? = some (I s.cores[c]!.l.cur)/\(wK fl)[c*2+1]? = some (.slice p s.cores[c]!.l.ps.length q)/\FSl (w6.alloc (.cells #[.slice a0 tn c0,.slice a1 tn c1,.slice a2 T c2,.slice a3 G c3,.slice a4 G c4] 44)) (.slice p s.cores[c]!.l.ps.length q) (zw s.cores[c]!.l)):=lH (fun c hc=>by
        obtain⟨p,q,f1,f2,f3⟩:=Yl HI.out Am.out c hc;exact⟨p,q,f1,f2,f3.below Bb⟩)
       have Gs:=Aq.out.below EX;have ey:=heap_alloc_new w6 (.cells #[.slice a0 tn c0,.slice a1 tn c1,.slice a2 T c2,.slice a3 G c3,.slice a4 G c4] 44);have x1:(w6.alloc (.cells #[.slice a0 tn c0,.slice a1 tn c1,.slice a2 T c2,.slice a3 G c3,.slice a4 G c4] 44)).cell? ⟨w6.heap.size,1,none⟩=some (.slice a1 tn c1):=by simp only[World.cell?,ey];rfl
       have x2:(w6.alloc (.cells #[.slice a0 tn c0,.slice a1 tn c1,.slice a2 T c2,.slice a3 G c3,.slice a4 G c4] 44)).cell? ⟨w6.heap.size,2,none⟩=some (.slice a2 T c2):=by simp only[World.cell?,ey];rfl
       have L1:(w6.alloc (.cells #[.slice a0 tn c0,.slice a1 tn c1,.slice a2 T c2,.slice a3 G c3,.slice a4 G c4] 44)).heap.size=w6.heap.size+1:=by simp
       obtain⟨ca,cc,aQ,-⟩:=Gs.coreCell;have AV:r.cores.length=tn:=by rw[mf.out.len,HI.out.len]
       rw[AV] at aQ;have r0:=Gs.c0;rw[aQ] at r0;have eF:=Gs.lt rb (by rw[Gs.osys];simp);have OO:=lH Gs;have sk:Hid (Below W.heap.size W (w6.alloc (.cells #[.slice a0 tn c0,.slice a1 tn c1,.slice a2 T c2,.slice a3 G c3,.slice a4 G c4] 44))):=lH (lF.out.trans ((Ey.out.trans (EX.mono Ey.out.size)).mono lF.out.size));have Mr:=lH AV;have A3:=lH aQ;have TY:=HF.out.1;clear aa CQ DC Bb EX hx Gs ey aQ AV aM Am ra nL pu sY;go_wp2_with fail
       go_quiet (fail)
       go_wp2_with fail
       obtain⟨V,hV⟩:∃V,w6.alloc (.cells #[.slice a0 tn c0,.slice a1 tn c1,.slice a2 T c2,.slice a3 G c3,.slice a4 G c4] 44)=V:=⟨_,rfl⟩
       rw[hV] at HX EI EJ GS x1 x2 L1 r0 OO sk eF⊢;obtain⟨bx,Ic⟩:∃y,w6.heap.size=y:=⟨_,rfl⟩
       rw[Ic] at x1 x2 L1⊢;have As:=lH (And.intro x1 (And.intro x2 r0));have HZ:=lH L1;have MA:=lH eF;clear hV Ic x1 x2 r0 L1 eF;go_loopw [12] (fun x wr=>∃i:Nat,i<=T/\x=I i/\Hid (Below V.heap.size V wr)) (fun x _=>T-(intOf x).toNat)
       case atStart=>exact⟨0,Nat.zero_le _,rfl,lH (zm _ V _)⟩
       case round=>
        obtain⟨i,hi,rfl,HQ⟩:=hrel;have sf:0<=(i:Int):=by omega
        have hz:=HZ.out;have x2:=(HQ.out.cell (p:=⟨bx,2,none⟩) (by show bx<V.heap.size;omega)).trans As.out.2.1;by_cases Iw:i<T
        · obtain⟨t,eZ,hid,aN,q0,q1,q2,q3,q4,q5,q6⟩:=Xi HI.out od.out i Iw;have eB:i<r.ts.length:=by rw[Gg.out];exact Iw
          have heq:=KE mf.out HI.out i eB;rw[<- eZ] at heq;obtain⟨gt,rfl,u0,s0⟩:=EJ.out _ _ q0;have aM:∀f z,(zu ((zf s.ps).map (yD s)))[i*7+f]? = some z->wr.cell? ⟨gt,i*7+f,none⟩=some z:=fun f z hz=>by
           obtain⟨g',ic,u1,s1⟩:=EJ.out _ _ hz;simp only[Option.some.injEq,Addr.mk.injEq,and_true] at ic;subst ic;exact(HQ.out.cell (p:=⟨gt,i*7+f,none⟩) u1).trans s1
          have z0:=aM 0 _ q0;have z1:=aM 1 _ q1;have z2:=aM 2 _ q2;have z3:=aM 3 _ q3;have z4:=aM 4 _ q4;have z5:=aM 5 _ q5;have z6:=aM 6 _ q6;rw[Nat.add_zero] at z0;have nM:=fun f hf=>XH r i eB f hf;obtain⟨u,hu⟩:∃u,xn r r.ts[i]=u:=⟨_,rfl⟩
          rw[hu] at heq nM;obtain⟨gx,rfl,v0,y0⟩:=HX.out _ _ ((nM 0 (by omega)).trans rfl);have ry:∀f z,f<7->u.cells[f]? = some z->wr.cell? ⟨gx,i*7+f,none⟩=some z:=fun f z hf hz=>by
           obtain⟨g',ic,u1,s1⟩:=HX.out _ _ ((nM f hf).trans hz);simp only[Option.some.injEq,Addr.mk.injEq,and_true] at ic;subst ic;exact(HQ.out.cell (p:=⟨gx,i*7+f,none⟩) u1).trans s1
          have p0:=ry 0 _ (by omega) rfl;have p1:=ry 1 _ (by omega) rfl;have p3:=ry 3 _ (by omega) rfl;have p4:=ry 4 _ (by omega) rfl;have p6:=ry 6 _ (by omega) rfl;rw[Nat.add_zero] at p0;obtain⟨e0,e1,e3,e4,e6⟩:=heq;rw[<- e0] at p0;rw[<- e1] at p1;rw[<- e3] at p3;rw[<- e4] at p4;rw[<- e6] at p6;have SW:(i:Int)<(T:Int):=by omega
          have Tm:=HQ.out.size;obtain⟨tid,tw,tg,tcr,tst,tms,tlg⟩:=t;simp only at z0 z1 z2 z3 z4 z5 z6 p0 p1 p3 p4 p6;have w0:=c2a (.cells #[I tid,I tw,I tg,I tcr,I tst,.int .u16 tms,I tlg] 60) p0;have w1:=c2a (.cells #[I tid,I tw,I tg,I tcr,I tst,.int .u16 tms,I tlg] 60) p1;have w3:=c2a (.cells #[I tid,I tw,I tg,I tcr,I tst,.int .u16 tms,I tlg] 60) p3;have w4:=c2a (.cells #[I tid,I tw,I tg,I tcr,I tst,.int .u16 tms,I tlg] 60) p4;have w6:=c2a (.cells #[I tid,I tw,I tg,I tcr,I tst,.int .u16 tms,I tlg] 60) p6;clear eZ hid aN q0 q1 q2 q3 q4 q5 q6 u0 s0 aM nM hu v0 y0 ry e0 e1 e3 e4 e6 eB;go_wp2_with fail
          go_quiet (fail)
          go_wp2_with fail
          go_roundw
          case rel=>exact⟨i+1,by omega,by go_num,lH ((HQ.out.alloc Tm (.cells #[I tid,I tw,I tg,I tcr,I tst,.int .u16 tms,I tlg] 60)).trans (zm _ _ _))⟩
          case measure=>simp[intOf];omega
        · obtain rfl:i=T:=by omega
          obtain⟨wA,Aj⟩:∃y,y=wr:=⟨_,rfl⟩
          rw[<- Aj] at HQ⊢;clear Aj x2;go_wp2_with fail
          go_loopw [14] (fun x wr=>∃i:Nat,i<=tn/\x=I i/\Hid (Below V.heap.size V wr)) (fun x _=>tn-(intOf x).toNat)
          case atStart=>exact⟨0,Nat.zero_le _,rfl,HQ⟩
          case round=>
           obtain⟨j,hj,rfl,HP⟩:=hrel;have oh:0<=(j:Int):=by omega
           have r0:=(HP.out.cell (p:=⟨rb,0,none⟩) MA.out).trans As.out.2.2;by_cases mZ:j<tn
           · obtain⟨pf,qf,f1,f2,f3⟩:=GS.out j mZ;obtain⟨gf,rfl,v0,y0⟩:=EI.out _ _ f1;obtain⟨g',ic,v1,y1⟩:=EI.out _ _ f2;simp only[Option.some.injEq,Addr.mk.injEq,and_true] at ic;subst ic;have z0:=(HP.out.cell (p:=⟨gf,j*2,none⟩) v0).trans y0;have z1:=(HP.out.cell (p:=⟨gf,j*2+1,none⟩) v1).trans y1;have x1:=(HP.out.cell (p:=⟨bx,1,none⟩) (by have:=HZ.out;show bx<V.heap.size;omega)).trans As.out.1;have le:j<s.cores.length:=by rw[HI.out.len];exact mZ
             have GF:j<r.cores.length:=by rw[Mr.out];exact mZ
             have rH:=(mf.out.core le).2;obtain⟨n1,-,-⟩:=HI.out.nums (by have:=Lq.out;omega) (by have:=Lq.out;omega) mZ;have GJ:=HI.out.wrapL (by have:=Lq.out;omega) (by have:=Lq.out;omega) mZ;have Ck:=OO.out.below HP.out;obtain⟨ca,cc9,Fm,Ie⟩:=Ck.coreCell;obtain⟨gi,rfl,-,-,tC⟩:=Ie j GF;rw[A3.out] at Fm;simp only[Value.slice.injEq] at Fm;obtain⟨rfl,-,rfl⟩:=Fm;have hq:=Ck.q j GF;rw[rH] at hq;simp only at hq;generalize s.cores[j]!.tag=tag at hq;obtain⟨l,hl⟩:∃l,s.cores[j]!.l=l:=⟨_,rfl⟩
             rw[hl] at hq n1 GJ f3 z0 z1;have aH:=fun w (hb:Below wr.heap.size wr w)=>dT B.qbs[j]! (B.qv j) tag l w (hq.below hb) n1 GJ;have lI:l.ps.length=(zw l).length:=by simp[zw]
             rw[lI] at f3 z1 n1;have f4:=f3.below HP.out;obtain⟨cu,CS⟩:∃y,l.cur=y:=⟨_,rfl⟩
             rw[CS] at z0 aH;generalize zw l=its at aH f4 z1 n1;generalize B.qbs[j]! = qb at tC aH;have RU:=lH aH;have Ro:=lH f4;have GB:(j:Int)<(tn:Int):=by omega
             have hS:TmS wr bx gf j rb gi qb tn c1 its.length qf cc pf cu wr.drew:=⟨(Below.refl _ wr).drew,x1,z0,z1,r0,tC⟩
             clear f1 f2 f3 f4 v0 v1 y0 y1 rH GJ Ck Ie hq lI aH z0 z1 x1 tC le GF;go_wp2_with fail
             go_region_held3 (TmS wr bx gf j rb gi qb tn c1 its.length qf cc pf cu) (first | (with_reducible exact hS) | (with_reducible exact r8) | (with_reducible exact ny) | (with_reducible exact eo)) (first | (go_at_call 18;refine(Qg cu pf its.length qf its _ (Ro.out.below hS.1) rfl n1).mono ?_;rintro e w7 ⟨v7,rfl,Ek,sT⟩;have r8:=hS.step sT;have Nl:=FSl.of Ek;obtain⟨a7,c7,Ts⟩:=Nl.form;subst Ts;clear Ek) | (go_at_call 19;refine(RU.out _ r8.1).mono ?_;rintro e w8 ⟨v8,rfl,El,mP⟩;have ny:=r8.step mP;have LL:=FSl.of El;obtain⟨a8,c8,P3⟩:=LL.form;subst P3;clear El) | (go_at_call 17;refine(Qk cu a7 a8 its.length c7 c8 its _ (Nl.below mP) LL rfl n1).mono ?_;rintro e w9 ⟨rfl,eQ⟩;have eo:=ny.step eQ) | fail)
             have Ce:Hid (Below V.heap.size V w9):=lH (HP.out.trans (eo.1.mono HP.out.size));clear hS r8 ny eo Nl LL sT mP eQ;go_wp2_with fail
             go_roundw
             case rel=>exact⟨j+1,mZ,by go_num,Ce⟩
             case measure=>simp[intOf];omega
           · obtain rfl:j=tn:=by omega
             go_wp2_with fail
             go_ret
             exact⟨rfl,sk.out.trans (HP.out.mono sk.out.size)⟩
  · have mF:=(X0 w0 tp tn tc zs Ls.out t8 BA).1;have Lf:=lH BA;clear BA;go_wp2_with fail
    refine mF.mono ?_;rintro e w1 ⟨rfl,ab⟩;have m9:=(X0 w1 tp tn tc zs (Ls.out.below ab) t8 Lf.out).2;have ef:=lH (lF.out.trans (ab.mono lF.out.size));clear mF ab;go_wp2_with fail
    refine m9.mono ?_;rintro e w2 ⟨rfl,ar⟩;have ew:=lH (ef.out.trans (ar.mono ef.out.size));clear m9 ar;go_wp2_with fail
    go_ret
    exact⟨rfl,ew.out⟩
end
end Go.Proofs.YtoiajjobecinpaaGreat

