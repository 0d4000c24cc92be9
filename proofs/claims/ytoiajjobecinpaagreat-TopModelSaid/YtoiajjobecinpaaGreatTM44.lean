/- The document's load: who moves, where to. The document's Tick: the accounts go on; who was held come -/
import Derived.Test.YtoiajjobecinpaaGreatTM41
set_option maxHeartbeats 4000000
set_option maxRecDepth 100000
namespace Go.Proofs.YtoiajjobecinpaaGreat
open Go.RowKit Go.Shelf Go.Lib Go.Proofs
set_option linter.unusedVariables false
set_option linter.unusedSimpArgs false
section
attribute [local go_sem] Oper.semAt_some
def UD (a:Int×Int×Bool):Int:=if a.2.2=true then a.1 else -1
theorem QJ (c:Nat) (h:c<16):IntKind.u16.wrap (2 ^ c)=2 ^ c:=by
 have:c=0\/c=1\/c=2\/c=3\/c=4\/c=5\/c=6\/c=7\/c=8\/c=9\/c=10\/c=11\/c=12\/c=13\/c=14\/c=15:=by omega
 rcases this with rfl | rfl | rfl | rfl | rfl | rfl | rfl | rfl | rfl | rfl | rfl | rfl | rfl | rfl | rfl | rfl <;> rfl
theorem WU (g c N gl cl M:Nat) (p:Option Addr) (xs:List Int) (l:List Lt) (W:World) (hN:xs.length=N) (hM:l.length=M) (hx:∀i,i<N->W.cell? ⟨g,i,none⟩=some (I (xs.getD i 0))) (i7:∀i,i<N->0<=xs.getD i 0/\xs.getD i 0<=1280)
 (hl:vV W gl l) (mC:∀k,k<M->1<=l[k]!.w/\l[k]!.w<=20/\0<=l[k]!.core/\l[k]!.core<N) (BJ:∀k,k<M->0<=l[k]!.mask/\l[k]!.mask<65536) (h0:1<=N) (h1:N<=16) (h2:M<1000000) (hg:0<M->p=some ⟨gl,0,none⟩/\gl<W.heap.size) (tE:g<W.heap.size) :
 Calls Tryz.prog 139 #[.slice (some ⟨g,0,none⟩) N c,.slice p M cl] W fun e w'=>e=.returned (.tuple #[I (UD (yT xs l (xm xs) M)),I (yT xs l (xm xs) M).2.1])/\Below W.heap.size W w':=by
 have pe:=WT g c N xs W hN h0 h1 tE hx;have i8:=bU xs (by omega);rw[hN] at i8;obtain⟨fr,mj⟩:=Int.eq_ofNat_of_zero_le i8.1;rw[mj] at pe i8⊢;have Bz:fr<N:=by omega
 have Pw:(fr:Int)<16:=by omega
 have CU:(fr:Int)<(N:Int):=by omega
 have Nj:0<=(fr:Int):=by omega
 have TW:=wC fr (by omega);have HX:=lH hx;have oQ:=lH i7;have HL:=lH hl;have px:=lH mC;have Mp:=lH BJ;have HN:=lH hN;have HM:=lH hM;have HG:=lH hg;clear hg hx i7 hl mC BJ hN hM mj i8;go_enter Tryz.func139,Tryz.ntmps139;go_wp2_with fail
 refine pe.mono ?_;rintro e w1 ⟨rfl,ab⟩;have ef:=lH ab;clear pe ab;go_wp2_with fail
 go_loopw [8,9,10] (fun x8 x9 x wr=>∃(k:Nat) (to1:Int) (a:Int×Int×Bool),k<=M/\x=I (k:Int)/\x8=I (UD a)/\x9=I a.2.1/\Hid (yT xs l fr k=a)/\Hid (Below W.heap.size W wr)) (fun _ _ i _=>M-(intOf i).toNat)
 case atStart=>exact⟨0,0,(0,0,false),by omega,rfl,rfl,rfl,lH rfl,ef⟩
 case round=>
  obtain⟨k,to0,⟨at1,to1,ok⟩,hk,rfl,rfl,rfl,A2,HB⟩:=hrel;by_cases rq:k<M
  · obtain⟨hp,hg⟩:=HG.out (by omega);subst hp;have ae:=(HL.out.below HB.out hg)
    obtain⟨a0,a1,a2,a3⟩:=ae k (by rw[HM.out];exact rq);obtain⟨b1,b2,b3,b4⟩:=px.out k rq;have lA:=Mp.out k rq;have sx:=jg xs l fr k;have iB:yT xs l fr (k+1)=ug xs l fr (yT xs l fr k) k:=rfl;have pR:=A2.out;rw[pR] at iB sx;simp only at sx;unfold ug at iB;simp only at iB;obtain⟨cn,Ae⟩:=Int.eq_ofNat_of_zero_le b3;rw[Ae] at a2 iB;rw[Int.toNat_natCast] at iB;have k1:(k:Int)<(M:Int):=by omega
    have k0:0<=(k:Int):=by omega
    have iD:=lH iB;have ou:=lH sx;have TE:=lH ae;obtain⟨z0,eG⟩:∃x,l[k]!.id=x:=⟨_,rfl⟩
    obtain⟨z1,aI⟩:∃x,l[k]!.w=x:=⟨_,rfl⟩
    obtain⟨z3,lE⟩:∃x,l[k]!.mask=x:=⟨_,rfl⟩
    rw[eG] at a0;rw[aI] at a1 b1 b2 iD;have nc:=lH aI;rw[lE] at a3 lA iD;clear iB sx pR ae Ae b3 b4 eG aI lE;by_cases rk:cn=fr
    · subst rk;have pD:=dw z3 cn lA;have oJ:=uZ (loads:=xs) (zV (xF z3 cn)) (0,false) (by simp);have lI:zD xs (xF z3 cn)=(zV (xF z3 cn)).foldl (zZ xs) (0,false):=rfl;rw[<- lI] at oJ;have ax:=uI g c N xs (xF z3 cn) pD wr HN.out h1 (Nat.lt_of_lt_of_le tE HB.out.size) (fun i hi=>(HB.out.cell (p:=⟨g,i,none⟩) tE).trans (HX.out i hi));rw[HN.out] at oJ;obtain⟨⟨r1,r2⟩,hr⟩:∃r,zD xs (xF z3 cn)=r:=⟨_,rfl⟩
      rw[hr] at oJ ax iD;simp only at oJ ax iD;have Ml:=lH oJ;have Az:xF z3 cn=bits .andNot .u16 z3 (IntKind.u16.wrap (2 ^ cn)):=by rw[QJ cn (by omega)];rfl
      rw[Az] at ax;clear Az pD lI hr oJ lA;go_wp2_with fail
      refine ax.mono ?_;rintro e w9 ⟨rfl,eQ⟩;have nw:=HB.out.trans (eQ.mono HB.out.size)
      have Cu:∀i,i<N->w9.cell? ⟨g,i,none⟩=some (I (xs.getD i 0)):=fun i hi=>(nw.cell (p:=⟨g,i,none⟩) tE).trans (HX.out i hi)
      have AF:=HL.out.below nw hg;have rz:=lH nw;obtain⟨d0,d1,d2,d3⟩:=AF k (by rw[HM.out];exact rq);rw[nc.out] at d1;have cfr:=Cu cn Bz;have bfr:=oQ.out cn Bz;obtain⟨yf,F4⟩:∃y,xs.getD cn 0=y:=⟨_,rfl⟩
      have B7:xs.getD (cn:Int).toNat 0=yf:=F4;rw[F4] at cfr bfr;rw[B7] at iD;clear eQ nw ax a0 a1 a2 a3 d0 d2 d3 F4 B7;cases r2 with
      | false=>
       clear Cu AF;have aA:Hid (yT xs l cn (k+1)=(at1,to1,ok)):=lH (iD.out.trans (if_neg (fun h=>by cases h.2.1)));clear iD;go_wp2_with fail
       go_quiet (fail)
       go_wp2_with fail
       go_roundw
       case rel=>exact⟨k+1,0,(at1,to1,ok),by omega,by go_num,rfl,rfl,aA,lH (rz.out.trans (zm _ w9 _))⟩
       case measure=>simp[intOf];omega
      | true=>
       obtain⟨l1,l2⟩:=Ml.out rfl;obtain⟨rn,N0⟩:=Int.eq_ofNat_of_zero_le l1;subst N0;have I8:rn<N:=by omega
       have cr:=Cu rn I8;have br:=oQ.out rn I8;obtain⟨yr,F5⟩:∃y,xs.getD rn 0=y:=⟨_,rfl⟩
       have Ca:xs.getD (rn:Int).toNat 0=yr:=F5;rw[F5] at cr br;rw[Ca] at iD;have LS:(rn:Int)<(N:Int):=by omega
       have ksub:IntKind.i64.wrap (yf-yr)=yf-yr:=by rw[IntKind.wrap_i64];omega
       clear F5 Ca Cu;by_cases ah:yr+z1<yf
       · have nG:z1<yf-yr:=by omega
         have IG:decide (z1<yf-yr)=true:=decide_eq_true nG;cases ok with
         | false=>
          clear AF;have aA:Hid (yT xs l cn (k+1)=((k:Int),(rn:Int),true)):=lH (iD.out.trans (if_pos ⟨by(first | trivial | rfl),rfl,ah,.inl rfl⟩));clear iD ah;rw[show UD (at1,to1,false)=-1 from rfl];go_wp2_with fail
          go_quiet (fail)
          go_wp2_with fail
          go_roundw
          case rel=>exact⟨k+1,0,((k:Int),(rn:Int),true),by omega,by go_num,rfl,rfl,aA,lH (rz.out.trans (zm _ w9 _))⟩
          case measure=>simp[intOf];omega
         | true=>
          obtain⟨t1,t2⟩:=ou.out rfl;obtain⟨an,Fc⟩:=Int.eq_ofNat_of_zero_le t1;subst Fc;obtain⟨-,ca,-,-⟩:=AF an (by rw[HM.out];omega);obtain⟨wa,FZ⟩:∃x,l[an]!.w=x:=⟨_,rfl⟩
          rw[FZ] at ca;have B6:l[(an:Int).toNat]!.w=wa:=FZ;rw[B6] at iD;have SB:(an:Int)<(M:Int):=by omega
          have SA:¬(an:Int)<0:=by omega
          have TI:decide ((an:Int)<0)=false:=decide_eq_false SA;have TJ:0<=(an:Int):=by omega
          clear AF FZ B6;rw[show UD ((an:Int),to1,true)=(an:Int) from rfl];by_cases Fw:wa<z1
          · have SR:decide (wa<z1)=true:=decide_eq_true Fw;have aA:Hid (yT xs l cn (k+1)=((k:Int),(rn:Int),true)):=lH (iD.out.trans (if_pos ⟨by(first | trivial | rfl),rfl,ah,.inr Fw⟩));clear iD ah;go_wp2_with fail
            go_quiet (fail)
            go_wp2_with fail
            go_roundw
            case rel=>exact⟨k+1,0,((k:Int),(rn:Int),true),by omega,by go_num,rfl,rfl,aA,lH (rz.out.trans (zm _ w9 _))⟩
            case measure=>simp[intOf];omega
          · have SP:z1<=wa:=by omega
            have SQ:decide (wa<z1)=false:=decide_eq_false Fw;have aA:Hid (yT xs l cn (k+1)=((an:Int),to1,true)):=lH (iD.out.trans (if_neg (fun h=>h.2.2.2.elim (fun h=>by cases h) Fw)));clear iD ah;go_wp2_with fail
            go_quiet (fail)
            go_wp2_with fail
            go_roundw
            case rel=>exact⟨k+1,0,((an:Int),to1,true),by omega,by go_num,rfl,rfl,aA,lH (rz.out.trans (zm _ w9 _))⟩
            case measure=>simp[intOf];omega
       · clear AF;have nG:yf-yr<=z1:=by omega
         have IG:decide (z1<yf-yr)=false:=decide_eq_false (by omega);have aA:Hid (yT xs l cn (k+1)=(at1,to1,ok)):=lH (iD.out.trans (if_neg (fun h=>ah h.2.2.1)));clear iD ah;go_wp2_with fail
         go_quiet (fail)
         go_wp2_with fail
         go_roundw
         case rel=>exact⟨k+1,0,(at1,to1,ok),by omega,by go_num,rfl,rfl,aA,lH (rz.out.trans (zm _ w9 _))⟩
         case measure=>simp[intOf];omega
    · have If:¬(cn:Int)=(fr:Int):=by omega
      have aA:Hid (yT xs l fr (k+1)=(at1,to1,ok)):=lH (iD.out.trans (if_neg (fun h=>If h.1)));clear iD;go_wp2_with fail
      go_roundw
      case rel=>exact⟨k+1,0,(at1,to1,ok),by omega,by go_num,rfl,rfl,aA,HB⟩
      case measure=>simp[intOf];omega
  · obtain rfl:k=M:=by omega
    go_wp2_with fail
    go_ret2
    rw[A2.out];exact⟨rfl,HB.out⟩
theorem Vi (rb:Nat) (N:Int) (W:World) (hN:N<0):Calls Tryz.prog 37 #[.pointer (some ⟨rb,0,none⟩),I N] W fun e w'=>e=.returned (I 1)/\W=w':=by
 go_enter Tryz.func37,Tryz.ntmps37;go_wp2_with fail
 go_ret
 exact⟨rfl,rfl⟩
theorem Qc {k n:Nat} {b:Int} {s:Sy} {r:RSy} {W:World} {rb:Nat} {B:RBk} {own:Nat->Option ROwn} (hA:RAt W rb B own r) (N:Int) (hN:0<=N/\N<=9223372036854775807) (hl:r.acc.length=16) (aT:r.ts.length<=64)
 (S:Nat->Sy) (ids:List Int) (iX:ids.Pairwise fun a b=>a<b) (m:Nat) (hm:ids.length=m)
 (h0:Rel (S 0) ⟨r.cores,r.ts,r.gs,vS N r.acc 16,r.ps⟩)
 (ak:∀(q:Nat) (hq:q<ids.length) (r':RSy),Rel (S q) r'->r'.ts.length=m/\ids.Perm (r'.ts.map (·.id))/\∃j t xs,j<r'.ts.length/\r'.ts[j]? = some t/\xr r'.ts ids[q]=((j:Nat):Int)/\zq r'.gs t.group xs/\xs.length<=4 /\
   (((t.state≠5\/xs.any (yR r')=true)/\Rel (S (q+1)) r') \/
     (t.state=5/\xs.any (yR r')=false/\∃i tag l,t.core=((i:Nat):Int)/\i<r'.cores.length/\r'.cores[i]! = (tag,l)/\(tag=0\/tag=1\/tag=2)/\l.ps.length<=64/\(-1152921504606846976<=l.base/\l.base<=1152921504606846976)/\zP l t.id t.w t.lag=0 /\
       Rel (S (q+1)) ⟨r'.cores.set i (tag,xR l t.id t.w t.lag),r'.ts.set j (stT t 2),r'.gs,r'.acc,r'.ps⟩)))
 (ag:∀r',Rel (S m) r'->r'.ts.length=m) (C5:m<=64) :
 Calls Tryz.prog 37 #[.pointer (some ⟨rb,0,none⟩),I N] W fun e w'=>e=.returned (I 0)/\RQ rb own (S m) W w':=by
 obtain⟨CK,Aa⟩:=hN;have HA:=lH hA;have HL:=lH hl;have Cc:=lH iX;have HM:=lH hm;have H0:=lH h0;have lL:=lH ak;have mL:=lH ag;clear hA hl iX hm h0 ak ag aT;go_enter Tryz.func37,Tryz.ntmps37;go_wp2_with fail
 go_loopw [5] (fun x wr=>∃j:Nat,j<=16/\x=I j/\Hid (RAt wr rb B own ⟨r.cores,r.ts,r.gs,vS N r.acc j,r.ps⟩/\RStep own own W wr)) (fun x _=>16-(intOf x).toNat)
 case atStart=>exact⟨0,Nat.zero_le _,rfl,lH ⟨HA.out,RStep.refl _ _⟩⟩
 case round=>
  obtain⟨j,hj,rfl,HR⟩:=hrel;have oh:0<=(j:Int):=by omega
  by_cases ml:j<16
  · have DY:(j:Int)<16:=by omega
    obtain⟨LA,Pa⟩:=HR.out;have NH:(vS N r.acc j).length=16:=by rw[kL];exact HL.out
    have aO:vS N r.acc (j+1)=(vS N r.acc j).set j (zJ ((vS N r.acc j).getD j default).1 ((vS N r.acc j).getD j default).2.1 ((vS N r.acc j).getD j default).2.2.1 ((vS N r.acc j).getD j default).2.2.2 N).1:=by
     show tkA N (vS N r.acc j) (j:Int)=_;simp[tkA]
    obtain⟨ac,nM⟩:∃ac,vS N r.acc j=ac:=⟨_,rfl⟩
    rw[nM] at LA NH aO;have RR:=lH LA;have Rz:=lH NH;obtain⟨a0,a1,a2,a3⟩:=LA.acc j ml;simp only at a0 a1 a2 a3;generalize(ac.getD j default).1=q0 at a0 aO;generalize(ac.getD j default).2.1=q1 at a1 aO;generalize(ac.getD j default).2.2.1=q2 at a2 aO;generalize(ac.getD j default).2.2.2=q3 at a3 aO;have pr:=fun W'=>Vf q0 q1 q2 q3 N W' (by omega) Aa;obtain⟨⟨⟨u0,u1,u2,u3⟩,ue⟩,hu⟩:∃x,zJ q0 q1 q2 q3 N=x:=⟨_,rfl⟩
    rw[hu] at pr aO;simp only[vr] at pr aO;have HN:=lH aO;have HS:=lH Pa;clear hu aO nM NH LA Pa;go_wp2_with fail
    have mE:=RR.out.below (Below.refl _ _).drew;have rW:=lH (HS.out.trans (RStep.below (own:=own) (Below.refl _ wr).drew));have sN:=lH mE;have l0:=mE.live (4+j*4);have l1:=mE.live (4+j*4+1);have l2:=mE.live (4+j*4+2);have l3:=mE.live (4+j*4+3);clear mE;go_region_law (go_simp;go_at_call 83;refine(pr _).mono ?_;rintro e w9 ⟨rfl,eQ⟩;have mM:=lH (sN.out.below eQ);have ms:=lH (rW.out.trans (RStep.below (own:=own) eQ));obtain⟨b0,b1,b2,b3⟩:=mM.out.acc j ml;simp only at b0 b1 b2 b3;have m0:=mM.out.live (4+j*4);have m1:=mM.out.live (4+j*4+1);have m2:=mM.out.live (4+j*4+2);have m3:=mM.out.live (4+j*4+3))
    obtain⟨tY,CI⟩:=mM.out.accSet j ml Rz.out u0 u1 u2 u3;have HF:=lH (And.intro tY (ms.out.trans CI));clear tY CI b0 b1 b2 b3 m0 m1 m2 m3 l0 l1 l2 l3 a0 a1 a2 a3;simp only[kM] at HF;generalize(((w9.setCell ⟨rb,4+j*4,none⟩ (I u0)).setCell ⟨rb,4+j*4+1,none⟩ (I u1)).setCell ⟨rb,4+j*4+2,none⟩ (I u2)).setCell ⟨rb,4+j*4+3,none⟩ (I u3)=Wf at HF⊢;go_wp2_with fail
    go_roundw
    case rel=>exact⟨j+1,ml,by go_num,lH ⟨by rw[HN.out];exact HF.out.1,HF.out.2⟩⟩
    case measure=>simp[intOf];omega
  · obtain rfl:j=16:=by omega
    have HQ:Hid (RQ rb own (S 0) W wr):=lH ⟨B,own,_,HR.out.1,H0.out,HR.out.2⟩;clear HR;obtain⟨wA,Aj⟩:∃x,x=wr:=⟨_,rfl⟩
    rw[<- Aj] at HQ⊢;clear Aj;go_wp2_with fail
    go_loopw [6] (fun x wr=>∃q:Nat,q<=m/\x=I q/\Hid (RQ rb own (S q) W wr)) (fun x _=>m-(intOf x).toNat)
    case atStart=>exact⟨0,Nat.zero_le _,rfl,HQ⟩
    case round=>
     obtain⟨q,hq,rfl,HQq⟩:=hrel;have Da:0<=(q:Int):=by omega
     obtain⟨B',own',r',eS,AW,aG⟩:=HQq.out;by_cases oy:q<m
     · have pH:(q:Int)<(m:Int):=by omega
       have nO:q<ids.length:=by rw[HM.out];exact oy
       obtain⟨ol,eD,j,t,xs,iK,hj,hp,hx,Es,nf⟩:=lL.out q nO r' AW;have Cm:=qE rb B' own' r' ids q nO wr eS (by omega) eD Cc.out;rw[hp] at Cm;have HA':=lH eS;have HR':=lH AW;have HS':=lH aG;have HC:=lH nf;obtain⟨g,n',c,hv,aw,ho,hn,k0,k1,k2,k3,k4,k5,k6⟩:=eS.row_ hj;have c1:=eS.c1;rw[hv,ol] at c1;have oh:0<=(j:Int):=by omega
       have PD:(j:Int)<(m:Int):=by omega
       have HJ:=lH hj;have HX:=lH (And.intro hx Es);have HV:=lH (And.intro hv ho);have eL:g<wr.heap.size:=eS.lt g (by rw[ho];simp);clear eS AW aG nf eD hx Es hp hj hv ho hn aw;go_wp2_with fail
       refine Cm.mono ?_;rintro e w1 ⟨rfl,ab⟩;have ef:=lH ab;have tY:=HA'.out.below ab;have c1':=tY.c1;obtain⟨g',n'',c',iC,aw,nz,hn,j0,j1,j2,j3,j4,j5,j6⟩:=tY.row_ HJ.out;rw[HV.out.1] at iC c1';rw[ol] at c1';simp only[Value.slice.injEq,Option.some.injEq,Addr.mk.injEq,and_true,true_and] at iC;obtain⟨rfl,-⟩:=iC;have TC:=lH tY;have sP:=lH tY.lt;clear Cm ab tY k0 k1 k2 k3 k4 k5 k6 c1 hn aw nz;have ey:yZ (w1.alloc (.cells #[I t.id,I t.w,I t.group,I t.core,I t.state,.int .u16 t.mask,I t.lag] 62)) w1.heap.size t:=heap_alloc_new w1 _;have ib:Below wr.heap.size wr (w1.alloc (.cells #[I t.id,I t.w,I t.group,I t.core,I t.state,.int .u16 t.mask,I t.lag] 62)):=ef.out.alloc ef.out.size _;have ew:=lH ib;have nB:=lH ey;have Ch:Hid (w1.heap.size<(w1.alloc (.cells #[I t.id,I t.w,I t.group,I t.core,I t.state,.int .u16 t.mask,I t.lag] 62)).heap.size):=lH (by simp);obtain⟨tid,tw,tg,tc,tst,tm,tl⟩:=t;simp only at HC HX ew nB Ch j0 j1 j2 j3 j4 j5 j6;have il:=ub rb B' own' r' tg xs _ (HA'.out.below ew.out) HX.out.1 (by have:=HX.out.2;omega);clear ey ib;by_cases h5:tst=5
       · subst h5;by_cases hh:xs.any (yR r')=true
         · have mf:Hid (Rel (S (q+1)) r'):=lH (by
            rcases HC.out with⟨-,h⟩ | ⟨-,h,-⟩
            · exact h
            · rw[hh] at h;cases h)
           rw[hh] at il;clear hh;go_wp2_with fail
           refine il.mono ?_;rintro e w2 ⟨rfl,ar⟩;have au:Hid (RQ rb own (S (q+1)) W w2):=lH (by
            have hb:=ew.out.trans (ar.mono ew.out.size)
            exact⟨B',own',r',HA'.out.below hb,mf.out,HS'.out.trans (RStep.below hb)⟩)
           clear ar il j0 j1 j2 j3 j4 j5 j6 c1';go_wp2_with fail
           (refine⟨?_,?measure⟩;(repeat apply Exists.intro);refine⟨?rel,rfl⟩)
           case rel=>exact⟨q+1,oy,by go_num,au⟩
           case measure=>simp[intOf];omega
         · have rp:xs.any (yR r')=false:=by simpa using hh
           obtain⟨i,tag,l,hi,eB,lO,lC,lm,eC,eA,hrel⟩:∃(i:Nat) (tag:Int) (l:Ln),tc=(i:Int)/\i<r'.cores.length/\r'.cores[i]! = (tag,l)/\(tag=0\/tag=1\/tag=2)/\l.ps.length<=64/\(-1152921504606846976<=l.base/\l.base<=1152921504606846976)/\zP l tid tw tl=0 /\
            Rel (S (q+1)) ⟨r'.cores.set i (tag,xR l tid tw tl),r'.ts.set j (stT ⟨tid,tw,tg,tc,5,tm,tl⟩ 2),r'.gs,r'.acc,r'.ps⟩:=by
            rcases HC.out with⟨h,-⟩ | ⟨-,-,h⟩
            · rcases h with h | h
              · exact absurd rfl h
              · rw[rp] at h;cases h
            · exact h
           subst hi;rw[rp] at il;have mf:=lH hrel;have aj:=fun W' (hq:QuAt W' B'.qbs[i]! (B'.qv i) tag l)=>jL B'.qbs[i]! (B'.qv i) tag l tid tw tl true W' hq lC lm (by omega) eA;simp only[if_true] at aj;have oN:=lH aj;have oa:=lH eB;have Lc:=lH lO;obtain⟨NC,AV⟩:∃x,r'.cores.length=x:=⟨_,rfl⟩
           have Mr:=lH AV;have sf:0<=(i:Int):=by omega
           have GA:(i:Int)<(NC:Int):=by omega
           clear hh rp HC hrel aj lC lm eC eA eB lO AV;go_wp2_with fail
           refine il.mono ?_;rintro e w2 ⟨rfl,ar⟩;have iN:=HA'.out.below (ew.out.trans (ar.mono ew.out.size));have nV:=nB.out.same (ar.block _ Ch.out);obtain⟨⟨x0,x1,x2,x3,x4,x5,x6⟩,-⟩:=nV.cells;simp only at x0 x1 x2 x3 x4 x5 x6;have c0:=iN.c0;obtain⟨ca,cc,aQ,mA⟩:=iN.coreCell;obtain⟨cg,rfl,-,-,Gv⟩:=mA i oa.out;rw[aQ,Mr.out] at c0;have aj:=oN.out w2.drew (by have:=(iN.q i oa.out).below (Below.refl _ w2).drew;rw[Lc.out] at this;exact this);have Gf:=lH (iN.oq i oa.out);obtain⟨qb,na⟩:∃x,B'.qbs[i]! = x:=⟨_,rfl⟩
           rw[na] at aj Gv Gf;have pL:=lH na;have nL:=lH (iN.below (Below.refl _ w2).drew);have iy:=lH (HS'.out.trans ((RStep.below (own:=own') (ew.out.trans (ar.mono ew.out.size))).trans (RStep.below (Below.refl _ w2).drew)));clear na iN ar nV mA aQ il j0 j1 j2 j3 j4 j5 j6 c1';go_wp2_with fail
           go_still_tail 14,(by kernel_rfl)
           change wpList _ _ _ _ _ (World.drew _);go_wp2_with fail
           refine aj.mono ?_;rintro e w9 ⟨rfl,v',rh,iE,nK⟩;have mO:=nL.out.setQ oa.out (by rw[pL.out];exact rh) (iE.wider (fun k hk=>.inl (by rw[pL.out];exact hk))) (fun j hj=>.inr (nK j hj));have ms:Hid (RStep own (fun k=>if v'.ownBlock=some k then some (.qrow i) else own' k) W w9):=lH (iy.out.trans (RStep.more iE (fun k hk=>by rw[hk,Gf.out];simp) (fun j hj=>.inr (nK j hj))));have c1:=mO.c1;simp only at c1;rw[HV.out.1,ol] at c1;have fr:∀i,w9.frozen? ⟨g,i,none⟩=false:=fun i=>mO.freeT (g:=g) (n:=r'.ts.length) (c:=c) HV.out.1 i;have fr4:=fr (j*7+4);have em:=(mO.row_ HJ.out)
           obtain⟨g3,n3,c3,Dk,-,-,-,z0,z1,z2,z3,z4,z5,z6⟩:=em;simp only at Dk;rw[HV.out.1] at Dk;simp only[Value.slice.injEq,Option.some.injEq,Addr.mk.injEq,and_true,true_and] at Dk;obtain⟨rfl,-⟩:=Dk;have lX:=mO.taskCell (g:=g) (n:=r'.ts.length) (c:=c) HV.out.1 (k:=j) (f:=4) (t:=⟨tid,tw,tg,i,5,tm,tl⟩) (t':=stT ⟨tid,tw,tg,i,5,tm,tl⟩ 2) (u:=I 2) HJ.out (by omega) rfl;have Pd:Touch (fun k=>k=g) w9 (w9.setCell ⟨g,j*7+4,none⟩ (I 2)):=(Touch.refl (fun k=>k=g) w9).setCell (t:=none) (c:=g) (i:=j*7+4) (.inl rfl) _;have au:Hid (RQ rb own (S (q+1)) W (w9.setCell ⟨g,j*7+4,none⟩ (I 2))):=lH ⟨_,_,_,lX,mf.out,ms.out.trans (RStep.keep Pd (fun k hk=>by rw[hk];have:=HV.out.2;split <;> simp[this]))⟩;clear mO rh iE nK lX Pd fr aj c0 Gv;go_wp2_with fail
           (refine⟨?_,?measure⟩;(repeat apply Exists.intro);refine⟨?rel,rfl⟩)
           case rel=>exact⟨q+1,oy,by go_num,au⟩
           case measure=>simp[intOf];omega
       · have mf:Hid (Rel (S (q+1)) r'):=lH (by
          rcases HC.out with⟨-,h⟩ | ⟨h,-⟩
          · exact h
          · exact absurd h h5)
         have au:Hid (RQ rb own (S (q+1)) W (w1.alloc (.cells #[I tid,I tw,I tg,I tc,I tst,.int .u16 tm,I tl] 62))):=lH
          ⟨B',own',r',HA'.out.below ew.out,mf.out,HS'.out.trans (RStep.below ew.out)⟩
         clear il;go_wp2_with fail
         (refine⟨?_,?measure⟩;(repeat apply Exists.intro);refine⟨?rel,rfl⟩)
         case rel=>exact⟨q+1,oy,by go_num,au⟩
         case measure=>simp[intOf];omega
     · obtain rfl:q=m:=by omega
       have hl:=mL.out r' AW;obtain⟨ta,tc,sj,-⟩:=eS.tasks;have c1:=eS.c1;rw[sj,hl] at c1;clear eS AW aG sj;go_wp2_with fail
       go_ret
       exact⟨rfl,HQq.out⟩
theorem WI (g c N gl cl M:Nat) (p:Option Addr) (xs:List Int) (l:List Lt) (W:World) (hN:xs.length=N) (hM:l.length=M) (hx:∀i,i<N->W.cell? ⟨g,i,none⟩=some (I (xs.getD i 0))) (i7:∀i,i<N->0<=xs.getD i 0/\xs.getD i 0<=1280)
 (hl:vV W gl l) (mC:∀k,k<M->1<=l[k]!.w/\l[k]!.w<=20/\0<=l[k]!.core/\l[k]!.core<N) (BJ:∀k,k<M->0<=l[k]!.mask/\l[k]!.mask<65536) (h0:1<=N) (h1:N<=16) (h2:M<1000000) (hg:0<M->p=some ⟨gl,0,none⟩/\gl<W.heap.size) (tE:g<W.heap.size) :
 Calls Tryz.prog 85 #[.slice (some ⟨g,0,none⟩) N c,.slice p M cl] W fun e w'=>e=.returned (.tuple #[I (yF xs l).1,I (yF xs l).2.1,.bool (yF xs l).2.2])/\Below W.heap.size W w':=by
 have eA:=WR g c N gl cl M p xs l W hM hx i7 hl mC (by omega) h2 hg;have mo:=fun W' (hB:Below W.heap.size W W')=>WU g c N gl cl M p xs l W' hN hM (fun i hi=>(hB.cell (p:=⟨g,i,none⟩) tE).trans (hx i hi)) i7 (fun k hk=>hl.below hB (hg (by omega)).2 k hk) mC BJ h0 h1 h2 (fun h=>⟨(hg h).1,Nat.lt_of_lt_of_le (hg h).2 hB.size⟩) (Nat.lt_of_lt_of_le tE hB.size);have i8:=jg xs l (xm xs) M;have hr:yF xs l=if (yT xs l (xm xs) M).2.2=true then(l[(yT xs l (xm xs) M).1.toNat]!.id,(yT xs l (xm xs) M).2.1,true) else(0,0,false):=by unfold yF;rw[hM]
 rw[hr];obtain⟨⟨a,t,o⟩,nM⟩:∃r,yT xs l (xm xs) M=r:=⟨_,rfl⟩
 rw[nM] at mo i8⊢;unfold UD at mo;simp only at mo i8⊢;have HL:=lH hl;have HG:=lH hg;have HM:=lH hM;clear hN hx i7 hl mC BJ h0 h1 h2 hg tE hr nM hM;cases o with
 | false=>
  rw[if_neg (by simp)];clear i8;go_enter Tryz.func85,Tryz.ntmps85;go_wp2_with fail
  refine eA.mono ?_;rintro e w1 ⟨rfl,hw⟩;have ab:Below W.heap.size W w1:=hw ▸ Below.refl _ _;clear hw;have nX:=mo w1 ab;simp only[Bool.false_eq_true,if_false,if_true] at nX;have ef:=lH ab;clear eA mo ab;go_wp2_with fail
  refine nX.mono ?_;rintro e w2 ⟨rfl,ar⟩;have ew:=lH ar;clear nX ar;go_wp2_with fail
  go_ret3
  exact⟨rfl,ef.out.trans (ew.out.mono ef.out.size)⟩
 | true=>
  rw[if_pos rfl];obtain⟨t1,t2⟩:=i8 rfl;obtain⟨an,Fc⟩:=Int.eq_ofNat_of_zero_le t1;subst Fc;have MY:0<M:=by omega
  have aN:an<l.length:=by have:=HM.out;omega
  obtain⟨hp,eL⟩:=HG.out MY;subst hp;show Calls _ _ _ _ (fun e w'=>e=.returned (.tuple #[I l[an]!.id,I t,.bool true])/\_);obtain⟨iv,FC⟩:∃x,l[an]!.id=x:=⟨_,rfl⟩
  rw[FC];have Mg:=lH FC;have k1:(an:Int)<(M:Int):=by omega
  clear i8 FC t1 t2;go_enter Tryz.func85,Tryz.ntmps85;go_wp2_with fail
  refine eA.mono ?_;rintro e w1 ⟨rfl,hw⟩;have ab:Below W.heap.size W w1:=hw ▸ Below.refl _ _;clear hw;have nX:=mo w1 ab;simp only[Bool.false_eq_true,if_false,if_true] at nX;have ef:=lH ab;clear eA mo ab;go_wp2_with fail
  refine nX.mono ?_;rintro e w2 ⟨rfl,ar⟩;have ib:=ef.out.trans (ar.mono ef.out.size)
  obtain⟨ca,-,-,-⟩:=HL.out.below ib eL an aN;rw[Mg.out] at ca;have ew:=lH ib;clear nX ar ib;go_wp2_with fail
  go_ret3
  exact⟨rfl,ew.out⟩
theorem Kh:(Tryz.prog.info? 164).map (fun i=>(i.zero,i.size,i.bytes))=some (some (.agg #[I 0,I 0,I 0,.int .u16 0]),4,32):=by kernel_rfl
theorem Qa {k n:Nat} {b:Int} {s:Sy} {r:RSy} {W:World} {rb:Nat} {B:RBk} {own:Nat->Option ROwn} (hA:RAt W rb B own r) (hR:Rel s r) (hI:InvY k b n s) (hk:k<=400) (hb:b<=1000000000000000000) (x0:Int) (ok0:Bool) (s':Sy) (hT:VE s x0 ok0 s') :
 Calls Tryz.prog 38 #[.pointer (some ⟨rb,0,none⟩)] W fun e w'=>∃x1,e=.returned (.tuple #[I x1,.bool ok0])/\(ok0=true->x1=x0)/\RQ rb own s' W w':=by
 obtain⟨ids,hp,oK,hc⟩:=hT;have aT:=hR.few hI;have h8:=hI.n8;have iX:=hR.ids hI;have ah:=Yo (ids:=ids) (l:=r.ts.map (·.id)) (by rw[iX];exact hp) (List.pairwise_map.2 hR.srt) oK;have eD:ids.Perm (r.ts.map (·.id)):=by rw[iX];exact hp
 obtain⟨m,hm⟩:∃m,r.ts.length=m:=⟨_,rfl⟩
 have sh:ids.length=m:=by rw[eD.length_eq,List.length_map,hm]
 obtain⟨AE,pG⟩:=hI.loadsOk hk hb hR;have IE:∀W',RAt W' rb B own r->Calls Tryz.prog 71 #[.pointer (some ⟨rb,0,none⟩)] W' fun e w'=>∃v,e=.returned v/\w'.ownsRow W'.heap.size 2 1 v (zj s).length ((zj s).map fun x=>I x)/\Below W'.heap.size W' w':=fun W' h=>by
  have:=uJ rb B own r W' h AE.2 pG;rw[hR.loads] at this;exact this
 have tI:(zj s).length=n:=by simp[zj,hI.len]
 have i7:=fun i (hi:i<n)=>U7 hI hk hb i hi;have Pv:=fun q (hq:q<(evL s ids).length)=>J1 hI (ids:=ids) q hq;have ak:=fun q (hq:q<ids.length)=>Ka hR hI hp hq;have mo:(yF (zj s) (evL s ids)).2.2=true->∀W',RAt W' rb B own r->Calls Tryz.prog 35 #[.pointer (some ⟨rb,0,none⟩),I (yF (zj s) (evL s ids)).1,I (yF (zj s) (evL s ids)).2.1] W' fun e w'=>e=.returned (I 0)/\RQ rb own (xP s (yF (zj s) (evL s ids)).1 (yF (zj s) (evL s ids)).2.1).2 W' w':=fun h W' eS=>by
  have:=Zs eS hR hI hk hb (yF (zj s) (evL s ids)).1 (yF (zj s) (evL s ids)).2.1;rw[UC hI hk hp h] at this;exact this
 have mx:(evL s ids).length<=64:=Nat.le_trans (gE s ids) (by omega);have c1:=hA.c1;obtain⟨ta,tc9,sj,-⟩:=hA.tasks;rw[sj,hm] at c1;have eF:=hA.lt rb (by rw[hA.osys];simp);obtain⟨i0,hi,eG,aI,et⟩:=info_parts Kh;have HA:=lH hA;have mf:=lH hR;have EE:=lH ah;have Cf:=lH eD;have HM:=lH hm;have Cz:=lH sh;have tU:=lH IE;have me:=lH tI;have oQ:=lH i7;have Le:=lH Pv;have lL:=lH ak;have Gd:=lH mo;have HC:=lH hc;have sZ:=lH (And.intro eF c1);have R4:=lH sj;have C5:m<=64:=by omega
 clear hA hR hI hp oK hc iX ah eD hm sh AE pG IE tI i7 Pv ak mo c1 sj eF aT;go_enter Tryz.func38,Tryz.ntmps38;go_wp2_with fail
 go_loopw [4,5] (fun y x wr=>∃(q:Nat) (v:Value),q<=m/\x=I q/\y=v/\Hid (wr.ownsRow W.heap.size 164 4 v (evL s (ids.take q)).length (xe (evL s (ids.take q))))/\Hid (Below W.heap.size W wr)) (fun _ x _=>m-(intOf x).toNat)
 case atStart=>exact⟨0,_,Nat.zero_le _,rfl,rfl,lH (World.ownsRow_nil ..),lH (Below.refl _ _)⟩
 case round=>
  obtain⟨q,y9,hq,rfl,rfl,A8,HB⟩:=hrel;have Da:0<=(q:Int):=by omega
  have c1:=(HB.out.cell (p:=⟨rb,1,none⟩) sZ.out.1).trans sZ.out.2;by_cases oy:q<m
  · have pH:(q:Int)<(m:Int):=by omega
    have nO:q<ids.length:=by rw[Cz.out];exact oy
    obtain⟨j,t,iK,hj,LR,iB⟩:=lL.out q nO;have eS:=HA.out.below HB.out;have Dn:Hid (∀W',Below wr.heap.size wr W'->Calls Tryz.prog 81 #[.pointer (some ⟨rb,0,none⟩),I q] W' fun e w'=>e=.returned (I (xr r.ts ids[q]))/\Below W'.heap.size W' w'):=lH (fun W' hb=>qE rb B own r ids q nO W' (eS.below hb) (by rw[HM.out];omega) Cf.out EE.out);rw[LR] at Dn;obtain⟨g,n',c,hv,aw,ho,hn,k0,k1,k2,k3,k4,k5,k6⟩:=eS.row_ hj;rw[R4.out] at hv;simp only[Value.slice.injEq] at hv;obtain⟨rfl,-,rfl⟩:=hv;rw[HM.out] at aw;have oh:0<=(j:Int):=by omega
    have PD:(j:Int)<(m:Int):=by omega
    have eL:=eS.lt g (by rw[ho];simp);have eF:=eS.lt rb (by rw[eS.osys];simp);have iD:=lH iB;have oH:=HB.out.size;obtain⟨tid,tw,tg,tc,tst,tm,tl⟩:=t;simp only at iD k0 k1 k2 k3 k4 k5 k6;have re:Hid (∀w:World,Below wr.heap.size wr w->HoS wr rb g j (.slice (some ⟨g,0,none⟩) m tc9) ⟨tid,tw,tg,tc,tst,tm,tl⟩ w):=lH (fun w hb=>
     ⟨(hb.cell (p:=⟨rb,1,none⟩) eF).trans c1,⟨(hb.cell (p:=⟨g,j*7,none⟩) eL).trans k0,(hb.cell (p:=⟨g,j*7+1,none⟩) eL).trans k1,(hb.cell (p:=⟨g,j*7+2,none⟩) eL).trans k2,(hb.cell (p:=⟨g,j*7+3,none⟩) eL).trans k3,(hb.cell (p:=⟨g,j*7+4,none⟩) eL).trans k4,(hb.cell (p:=⟨g,j*7+5,none⟩) eL).trans k5,(hb.cell (p:=⟨g,j*7+6,none⟩) eL).trans k6⟩,lH hb⟩)
    clear eS hj LR ho hn aw k0 k1 k2 k3 k4 k5 k6 eL eF iB iK;go_upto_region 5 with fail
    go_cut [6] from 10 to 42 (fun s6 wc=>∃b:Nat,s6=.pointer (some ⟨b,0,none⟩)/\Hid (Below wr.heap.size wr wc/\yZ wc b ⟨tid,tw,tg,tc,tst,tm,tl⟩/\wr.heap.size<=b))
    case first=>
     have lr:=re.out wr.drew (Below.refl _ wr).drew;refine zK (S:=HoS wr rb g j (.slice (some ⟨g,0,none⟩) m tc9) ⟨tid,tw,tg,tc,tst,tm,tl⟩) (T:=[10]) (by kernel_rfl) ?_;refine wT 0 ?_;refine wT 1 ?_;refine wT 2 ?_;refine wT 3 ?_;refine wT 4 ?_;refine wT 5 ?_;simp only[Act.put,aP,List.set];refine wZ (i:=6) (j:=9) (by kernel_rfl) rfl rfl (by kernel_rfl) ?_ ?_;case' refine_2=>
      intro K hK;go_simp
      have ab:Below wr.heap.size wr (wr.drew.alloc (.cells #[I 0,I 0,I 0,I 0,I 0,.int .u16 0,I 0] 62)):=(Below.refl _ wr).drew.alloc (Nat.le_refl _) _;refine hK _ _ (re.out _ ab) ?_;clear hK;refine ze (i:=6) (by kernel_rfl) rfl (by kernel_rfl) ?_;intro K hK;go_simp
      go_at_call 81
      refine(Dn.out _ ab).mono ?_;rintro e w9 ⟨rfl,eQ⟩;have eN:yZ w9 wr.heap.size ⟨0,0,0,0,0,0,0⟩:=(eQ.block wr.heap.size (by simp)).trans (heap_alloc_new wr.drew _)
      have ar:Below wr.heap.size wr w9:=ab.trans (eQ.mono ab.size)
      have eo:=re.out w9 ar;have ir:wr.heap.size<=wr.heap.size:=Nat.le_refl _;refine hK _ _ eo ?_;clear hK ab eQ lr;refine wT 7 ?_;refine wT 8 ?_;simp only[Act.put,aP,List.set];obtain⟨⟨y0,y1,y2,y3,y4,y5,y6⟩,yf⟩:=eN.cells;have f0:=yf 0;have f1:=yf 1;have f2:=yf 2;have f3:=yf 3;have f4:=yf 4;have f5:=yf 5;have f6:=yf 6;have ey:=eN.put tid tw tg tc tst tm tl;have aK:Below wr.heap.size wr (xA w9 (wr.heap.size) ⟨tid,tw,tg,tc,tst,tm,tl⟩):=vO ar ir;unfold xA at aK;simp only at aK ey;refine zk (i:=10) (by kernel_rfl) rfl (by kernel_rfl) ?_;intro K hK;go_simp
      refine hK _ _ ?_;clear hK;generalize(((((((w9.setCell ⟨wr.heap.size,0,none⟩ (I tid)).setCell ⟨wr.heap.size,1,none⟩ (I tw)).setCell ⟨wr.heap.size,2,none⟩ (I tg)).setCell ⟨wr.heap.size,3,none⟩ (I tc)).setCell ⟨wr.heap.size,4,none⟩ (I tst)).setCell ⟨wr.heap.size,5,none⟩ (.int .u16 tm)).setCell ⟨wr.heap.size,6,none⟩ (I tl))=w5 at ey aK⊢;refine zy (by kernel_rfl) ?_ _;go_wp2_with fail
      go_meet
      case rel=>exact⟨wr.heap.size,rfl,lH ⟨aK,ey,ir⟩⟩
     case' refine_1=>
      intro K hK;go_simp
      go_at_call 81
      refine(Dn.out _ (Below.refl _ wr).drew).mono ?_;rintro e w8 ⟨rfl,eQ⟩;have ab:Below wr.heap.size wr w8:=(Below.refl _ wr).drew.trans eQ;have ny:=re.out w8 ab;refine hK _ _ ny ?_;clear hK eQ lr;refine wT 7 ?_;refine wT 8 ?_;simp only[Act.put,aP,List.set];refine ze (i:=9) (by kernel_rfl) rfl (by kernel_rfl) ?_;intro K hK;go_simp
      have ar:Below wr.heap.size wr (w8.alloc (.cells #[I 0,I 0,I 0,I 0,I 0,.int .u16 0,I 0] 62)):=ab.alloc ab.size _;have eN:yZ (w8.alloc (.cells #[I 0,I 0,I 0,I 0,I 0,.int .u16 0,I 0] 62)) w8.heap.size ⟨0,0,0,0,0,0,0⟩:=heap_alloc_new w8 _;have ir:wr.heap.size<=w8.heap.size:=ab.size;have eo:=re.out _ ar;refine hK _ _ eo ?_;clear hK ab ny;generalize w8.alloc (.cells #[I 0,I 0,I 0,I 0,I 0,.int .u16 0,I 0] 62)=w9 at ar eN eo⊢;obtain⟨⟨y0,y1,y2,y3,y4,y5,y6⟩,yf⟩:=eN.cells;have f0:=yf 0;have f1:=yf 1;have f2:=yf 2;have f3:=yf 3;have f4:=yf 4;have f5:=yf 5;have f6:=yf 6;have ey:=eN.put tid tw tg tc tst tm tl;have aK:Below wr.heap.size wr (xA w9 (w8.heap.size) ⟨tid,tw,tg,tc,tst,tm,tl⟩):=vO ar ir;unfold xA at aK;simp only at aK ey;refine zk (i:=10) (by kernel_rfl) rfl (by kernel_rfl) ?_;intro K hK;go_simp
      refine hK _ _ ?_;clear hK;generalize(((((((w9.setCell ⟨w8.heap.size,0,none⟩ (I tid)).setCell ⟨w8.heap.size,1,none⟩ (I tw)).setCell ⟨w8.heap.size,2,none⟩ (I tg)).setCell ⟨w8.heap.size,3,none⟩ (I tc)).setCell ⟨w8.heap.size,4,none⟩ (I tst)).setCell ⟨w8.heap.size,5,none⟩ (.int .u16 tm)).setCell ⟨w8.heap.size,6,none⟩ (I tl))=w5 at ey aK⊢;refine zy (by kernel_rfl) ?_ _;go_wp2_with fail
      go_meet
      case rel=>exact⟨w8.heap.size,rfl,lH ⟨aK,ey,ir⟩⟩
    case rest=>
    obtain⟨b,rfl,HW⟩:=hcut;have ew:Hid (Below wr.heap.size wr wc):=lH HW.out.1;obtain⟨⟨x0',x1',x2',x3',x4',x5',x6'⟩,-⟩:=HW.out.2.1.cells;simp only at x0' x1' x2' x3' x4' x5' x6';have sk:=lH (HB.out.trans (ew.out.mono HB.out.size));have Dw:=lH (zb A8.out (fun k hk=>ew.out.block k (A8.out.lt k hk).2));clear HW re Dn;by_cases h2:tst=2
    · subst h2;have oC:Hid (evL s (ids.take (q+1))=evL s (ids.take q)++[⟨tid,tw,tc,tm⟩]):=lH (iD.out.trans (by rw[if_pos rfl]));obtain⟨L,hL⟩:∃L,evL s (ids.take q)=L:=⟨_,rfl⟩
      have Lz:=gE s (ids.take q);rw[List.length_take] at Lz;rw[hL] at oC Dw Lz;obtain⟨NL,M0⟩:∃NL,L.length=NL:=⟨_,rfl⟩
      rw[M0] at Dw Lz;have RF:=lH M0;obtain⟨sa,sc,rfl,-⟩:=zH Dw.out;have O6:NL<=64:=by omega
      clear hL M0 A8 iD Lz;go_wp2_with (at_builtin;refine yK rfl _ _ _ rfl W.heap.size 164 i0 _ 4 32 Tryz.underlying162 hi eG aI et rfl (by decide) (.slice sa NL sc) NL _ rfl (Dw.out.alloc _) (some ⟨wc.heap.size,0,none⟩) 1 1 [I tid,I tw,I tc,.int .u16 tm] rfl (vL (cs:=#[I tid,I tw,I tc,.int .u16 tm]) (by simp[Value.oneCell'])) (by unfold maxLen;omega) (by omega) (by have:=sk.out.size;simp;omega) (NL+1) rfl _ rfl ?_;intro a2 q2 w2 eh aR nm)
      have rX:Hid (∀j,Value.ownBlock (.slice sa NL sc)=some j->W.heap.size<=j):=lH (fun j hj=>(Dw.out.lt j hj).1);have AP:Hid (Below W.heap.size W w2):=lH ((sk.out.alloc sk.out.size _).grown aR (by have:=sk.out.size;simp;omega) rX.out);have sN:Hid (w2.ownsRow W.heap.size 164 4 (.slice a2 (NL+1) q2) (evL s (ids.take (q+1))).length (xe (evL s (ids.take (q+1))))):=lH (by
       rw[oC.out,hU,List.length_append,RF.out];exact eh)
      clear eh aR nm Dw oC x0' x1' x2' x3' x4' x5' x6'
      (first | go_roundw | (refine⟨?_,?measure⟩;(repeat apply Exists.intro);refine⟨?rel,rfl⟩))
      case rel=>exact⟨q+1,_,oy,by go_num,rfl,sN,AP⟩
      case measure=>simp[intOf];omega
    · have oC:Hid (evL s (ids.take (q+1))=evL s (ids.take q)):=lH (iD.out.trans (by rw[if_neg h2,List.append_nil]));have NY:=Dw.out;rw[<- oC.out] at NY;have sN:=lH NY;clear NY;clear Dw oC A8 iD;go_wp2_with fail
      (first | go_roundw | (refine⟨?_,?measure⟩;(repeat apply Exists.intro);refine⟨?rel,rfl⟩))
      case rel=>exact⟨q+1,_,oy,by go_num,rfl,sN,sk⟩
      case measure=>simp[intOf];omega
  · obtain rfl:q=m:=by omega
    have FS:=A8.out;rw[show ids.take q=ids from List.take_of_length_le (by rw[Cz.out];exact Nat.le_refl _)] at FS;obtain⟨pl,cl,gl,Oc,tJ,C7⟩:=bQ FS;subst Oc;have D4:=tU.out wr (HA.out.below HB.out);obtain⟨l,lI⟩:∃l,evL s ids=l:=⟨_,rfl⟩
    obtain⟨xs,GK⟩:∃xs,zj s=xs:=⟨_,rfl⟩
    rw[lI] at tJ C7 mx Le Gd HC;rw[GK] at D4 me oQ Gd HC;rw[lI];obtain⟨M,hM⟩:∃M,l.length=M:=⟨_,rfl⟩
    rw[hM] at C7 mx Le⊢;have EG:=lH tJ;have CB:=lH C7;have A5:=lH hM;clear tJ C7 lI GK hM FS A8 lL;go_wp2_with fail
    refine D4.mono ?_;rintro e w2 ⟨vl,rfl,om,ar⟩;obtain⟨g2,cc2,GI,ap⟩:=us om (by rw[me.out];omega);subst GI;have oI:=om.lt g2 rfl;have lP:=WI g2 cc2 xs.length gl cl M pl xs l w2 rfl A5.out ap (by rw[me.out];exact oQ.out) (EG.out.below' ar A5.out CB.out) (by rw[me.out];exact fun k hk=>(Le.out k hk).1) (fun k hk=>(Le.out k hk).2) (by rw[me.out];omega) (by rw[me.out];omega) (by omega) (fun h=>⟨(CB.out h).1,Nat.lt_of_lt_of_le (CB.out h).2 ar.size⟩) oI.2;have rP:=Gd.out;have oe:=HC.out;obtain⟨⟨r1,r2,r3⟩,hr⟩:∃r,yF xs l=r:=⟨_,rfl⟩
    rw[hr] at lP rP oe;simp only at lP rP oe;have EH:=lH rP;have pI:=lH oe;have GO:=lH (HB.out.trans (ar.mono HB.out.size));obtain⟨xl,LZ⟩:∃y,xs.length=y:=⟨_,rfl⟩
    rw[LZ] at lP⊢;clear om ap oI ar rP oe hr HC Gd me LZ;go_wp2_with fail
    refine lP.mono ?_;rintro e w3 ⟨rfl,aK⟩;have tT:=lH (GO.out.trans (aK.mono GO.out.size));clear lP aK;cases r3 with
    | false=>
     have HF:Hid (ok0=false/\s'=s):=lH (by
      rcases pI.out with⟨h1,-,h3⟩ | ⟨-,h2,-⟩
      · exact⟨h1,h3⟩
      · cases h2)
     obtain⟨lQ,N3⟩:=HF.out;subst lQ N3;go_wp2_with fail
     (try go_ret2)
     exact⟨0,rfl,fun h=>by(first | cases h | simp at h),RQ.of HA.out mf.out tT.out⟩
    | true=>
     have HF:Hid (ok0=true/\x0=r1/\s'=(xP s x0 r2).2):=lH (by
      rcases pI.out with⟨-,h2,-⟩ | ⟨h1,-,h3,h4⟩
      · cases h2
      · exact⟨h1,h3,h4⟩)
     obtain⟨lQ,ek,N3⟩:=HF.out;subst lQ ek N3;have BK:=EH.out rfl w3 (HA.out.below tT.out);clear HF pI;go_wp2_with fail
     refine BK.mono ?_;rintro e w4 ⟨rfl,B4,own4,r4,Hh,DH,sR⟩;have au:Hid (RQ rb own (xP s x0 r2).2 W w4):=lH ⟨B4,own4,r4,Hh,DH,(RStep.below tT.out).trans sR⟩;clear BK Hh DH sR;go_wp2_with fail
     (try go_ret2)
     exact⟨_,rfl,(by first | rfl | exact fun _=>rfl),au.out⟩
end
section
variable {k n:Nat} {b:Int} {s s0:Sy} {r:RSy} {W:World} {rb:Nat} {B:RBk} {own:Nat->Option ROwn}
theorem Wh {w:Int}:zQ w=true↔1<=w/\w<=20:=by
 unfold zQ;simp
theorem Rel.spawned (hR:Rel s r) {id w m g:Int} (ps':List (Int×Bool)) (c:Nat) (hn:s.tasks id=none) {q:Nat} (NI:∀j t,r.ts[j]? = some t->j<q->t.id%64<id%64) (Nx:∀t,r.ts[q]? = some t->id%64<t.id%64) :
 Rel ⟨s.cores,s.gs,s.acc,ps',fun x=>if x=id then some (ya id w m g) else s.tasks x,c⟩ ⟨r.cores,r.ts.take q++ya id w m g::r.ts.drop q,r.gs,r.acc,ps'⟩:=by
 have ev:∀t,t∈r.ts.take q++ya id w m g::r.ts.drop q↔t=ya id w m g\/t∈r.ts:=fun t=>by
  have h2:t∈r.ts↔t∈r.ts.take q\/t∈r.ts.drop q:=by
   rw[<- List.mem_append,List.take_append_drop]
  rw[h2,List.mem_append,List.mem_cons];constructor
  · rintro(h | h | h)
    · exact .inr (.inl h)
    · exact .inl h
    · exact .inr (.inr h)
  · rintro(h | h | h)
    · exact .inr (.inl h)
    · exact .inl h
    · exact .inr (.inr h)
 have oK:=List.pairwise_iff_getElem.1 hR.srt;refine⟨hR.cores,hR.gs,hR.acc,rfl,?_,fun t ht=>?_,fun x u hu=>?_,hR.zero,hR.tags⟩
 · refine List.pairwise_append.2 ⟨hR.srt.sublist (List.take_sublist _ _),List.pairwise_cons.2 ⟨fun t ht=>?_,hR.srt.sublist (List.drop_sublist _ _)⟩,fun x hx y hy=>?_⟩
   · obtain⟨i,hi,rfl⟩:=List.mem_iff_getElem.1 ht;rw[List.getElem_drop];rw[List.length_drop] at hi;have h1:=Nx _ (List.getElem?_eq_getElem (l:=r.ts) (i:=q) (by omega));show id%64<_;by_cases e:i=0
     · subst e;exact h1
     · have:=oK q (q+i) (by omega) (by omega) (by omega);omega
   · obtain⟨i,hi,rfl⟩:=List.mem_iff_getElem.1 hx;rw[List.length_take] at hi;rw[List.getElem_take];rcases List.mem_cons.1 hy with rfl | hy
     · exact NI i _ (List.getElem?_eq_getElem (by omega)) (by omega)
     · obtain⟨j,hj,rfl⟩:=List.mem_iff_getElem.1 hy;rw[List.getElem_drop];rw[List.length_drop] at hj;exact oK i (q+j) (by omega) (by omega) (by omega)
 · show∃u,(if t.id=id then some (ya id w m g) else s.tasks t.id)=some u/\SamT u t;rcases(ev t).1 ht with rfl | ht
   · exact⟨ya id w m g,if_pos rfl,SamT.refl _⟩
   · obtain⟨u,hu,hS⟩:=hR.at_ t ht;refine⟨u,?_,hS⟩;rw[if_neg (fun e=>by rw[e,hn] at hu;cases hu)];exact hu
 · replace hu:(if x=id then some (ya id w m g) else s.tasks x)=some u:=hu;by_cases e:x=id
   · exact⟨_,(ev _).2 (.inl rfl),e.symm⟩
   · rw[if_neg e] at hu;obtain⟨t,ht,hx⟩:=hR.all x u hu;exact⟨t,(ev t).2 (.inr ht),hx⟩
theorem WN (hA:RAt W rb B own r) (hR:Rel s r) (hI:InvY k b n s) (hk:k<=400) (hb:b<=1000000000000000000) (w m g:Int) (hm:0<=m/\m<65536) :
 Calls Tryz.prog 31 #[.pointer (some ⟨rb,0,none⟩),I w,.int .u16 m,I g] W fun e w'=>e=.returned (.tuple #[I (xh s w m g).1,I (xh s w m g).2.1])/\RQ rb own (xh s w m g).2.2 W w':=by
 have aT:=hR.few hI;have h8:=hI.n8;have om:r.cores.length=s.cores.length:=hR.len;have sW:=hI.len;unfold xh;by_cases hw:zQ w=false
 · rw[if_pos hw];exact(YK rb B own r w m g W hA hw).mono (fun e w' ⟨he,hw⟩=>⟨he,hw ▸ RQ.of hA hR (Below.refl _ _)⟩)
 · rw[if_neg hw];have nj:zQ w=true:=by simpa using hw
   by_cases hg:ye m s.cores.length=false
   · rw[if_pos hg];exact(Zx rb B own r w m g W hA (by omega) nj hm (by rw[om];exact hg)).mono (fun e w' ⟨he,hB⟩=>⟨he,RQ.of hA hR hB⟩)
   · rw[if_neg hg];have ic:ye m s.cores.length=true:=by simpa using hg
     by_cases hh:zL s.gs g=false
     · rw[if_pos hh];exact(cP rb B own r w m g W hA (by omega) nj hm (by rw[om];exact ic) (by rw[hR.gs];exact hh)).mono (fun e w' ⟨he,hB⟩=>⟨he,RQ.of hA hR hB⟩)
     · rw[if_neg hh];have rp:zL s.gs g=true:=by simpa using hh
       have hz:xj r.ps:=by rw[hR.ps];exact hI.sized hk
       by_cases h0:(ym s.ps).2.1=0
       · rw[if_pos h0];obtain⟨i1,i2,-⟩:=hI.spawn hk h0 (Wh.1 nj) ⟨hm,by rw[<- sW];exact ic⟩ rp;obtain⟨j,hj,hf,ht⟩:=dZ h0;refine(Ve rb B own r w m g (ym s.ps).1 (ym s.ps).2.2 W hA aT (by omega) nj hm (by rw[om];exact ic) (by rw[hR.gs];exact rp) hz (by rw[hR.ps,<- h0]) i1 (fun j' t l9=>?_)).mono ?_
         · have ev:t.id∈zf s.ps:=by rw[<- hR.ids hI];exact List.mem_map.2 ⟨t,List.mem_of_getElem? l9,rfl⟩
           obtain⟨u,hu,hS⟩:=hR.at_ t (List.mem_of_getElem? l9);obtain⟨i,hi,e1,e2⟩:=xL.1 ev;rw[hI.pslen] at hi hj;have Td:=hI.psat i hi;have PQ:=hI.psat j hj;rw[ht];simp only
           refine⟨by have:=Td.2.2 e1;omega,fun e=>?_⟩;have:i=j:=by omega
           subst this;rw[hf] at e1;cases e1
         · rintro e w' ⟨he,q,hq,NI,Nx,B',own',eS,aG⟩;exact⟨he,B',own',_,eS,hR.spawned _ _ i2 NI Nx,aG⟩
       · rw[if_neg h0];have A0:ym s.ps=(0,3,s.ps):=by
          unfold ym at h0⊢;cases hf:s.ps.findIdx? (fun p=>!p.2) with
          | some i=>rw[hf] at h0;exact absurd rfl h0
          | none=>rfl
         refine(Zw rb B own r w m g W hA (by omega) nj hm (by rw[om];exact ic) (by rw[hR.gs];exact rp) hz (by rw[hR.ps];exact A0)).mono ?_;rintro e w' ⟨he,eS,aG⟩;exact⟨he,B,own,r,eS,hR,aG⟩
theorem WL (hA:RAt W rb B own r) (hR:Rel s r) (hI:InvY k b n s) (ot:(s.gs.getD 0 default).1=true) (up q p:Int) (xs:List G16) (hx:zq s.gs up xs) :
 Calls Tryz.prog 30 #[.pointer (some ⟨rb,0,none⟩),I up,I q,I p] W fun e w'=>e=.returned (.tuple #[I (xk s up q p xs.length).1,I (xk s up q p xs.length).2.1])/\RQ rb own (xk s up q p xs.length).2.2 W w':=by
 obtain⟨ys,hy,Et⟩:=hI.gs.path up;have ag:xs.length<=100:=by
  have:xs=ys:=hx.unique hy;subst this;omega
 unfold xk;by_cases h1:(wF q p).2≠0
 · rw[if_pos h1];exact(YF rb B own r up q p W hA h1).mono (fun e w' ⟨he,hB⟩=>⟨he,RQ.of hA hR hB⟩)
 · rw[if_neg h1];have Gl:(wF q p).2=0:=by simpa using h1
   by_cases h2:(yp s.gs up xs.length).2.1≠0
   · rw[if_pos h2];refine(YG rb B own r up q p xs W hA Gl (by rw[hR.gs];exact hx) ag (by rw[hR.gs];exact ot) (by rw[hR.gs];exact h2)).mono ?_;rw[hR.gs];rintro e w' ⟨he,eS,aG⟩;refine⟨he,B,own,_,eS,?_,aG⟩;have CW:(yp s.gs up xs.length).2.2=s.gs:=by
      unfold yp vW at h2⊢;split
      · split
        · rfl
        · cases hf:s.gs.findIdx? (fun p=>!p.1) with
          | some i=>simp_all
          | none=>rfl
      · rfl
     rw[CW];exact⟨hR.cores,rfl,hR.acc,hR.ps,hR.srt,hR.at_,hR.all,hR.zero,hR.tags⟩
   · rw[if_neg h2];have Ci:(yp s.gs up xs.length).2.1=0:=by simpa using h2
     obtain⟨j,hj,hf,e1,e2,hG⟩:=hI.gs.add hx Ci;refine(WS rb B own r up q p xs j W hA Gl (by rw[hR.gs];exact hx) ag (by rw[hR.gs];exact ot) (by rw[hR.gs];exact Ci) (by rw[hR.gs];exact e1) hj (by rw[hR.acc];exact hI.acc.1)).mono ?_;rw[hR.gs,e1,e2];rintro e w' ⟨he,eS,aG⟩;refine⟨he,B,own,_,eS,⟨hR.cores,rfl,by rw[hR.acc];rfl,hR.ps,hR.srt,hR.at_,hR.all,fun i hi hz=>?_,hR.tags⟩,aG⟩;replace hz:zL (s.gs.set j (true,up)) i=false:=hz;show(s.acc.set j (wF q p).1).getD i default=_;rw[vh hI.gs.len hj] at hz;rw[yP _ _ _ _ (by rw[hI.acc.1];exact hj)];have ay:¬(i:Int)=(j:Int):=fun e=>by simp[e] at hz
     rw[if_neg (by omega)];refine hR.zero i hi ?_;simpa [ay] using hz
end
end Go.Proofs.YtoiajjobecinpaaGreat
