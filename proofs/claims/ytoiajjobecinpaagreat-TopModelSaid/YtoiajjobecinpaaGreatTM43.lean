/- The document's Run: who is there goes on by one tick. -/
import Derived.Test.YtoiajjobecinpaaGreatTM41
set_option maxHeartbeats 8000000
set_option maxRecDepth 100000
namespace Go.Proofs.YtoiajjobecinpaaGreat
open Go.RowKit Go.Shelf Go.Lib Go.Proofs
set_option linter.unusedVariables false
set_option linter.unusedSimpArgs false
section
attribute [local go_sem] Oper.semAt_some
theorem wUU {P:Program} {ops:Array Oper} {md:Region.Mode} {Q:Exit->Act->World->Prop} {S:World->Prop} {T:List Nat} (i:Nat) {oi:Oper} {v:Value} {fuel:Nat} {listed:Array Bool} {a:Act} {w:World} (hi:ops[i]? = some oi)
 (hy:∀w,S w->(execOp a.eval oi).run P w=.ok (.value v) w) (h:xB P md ops Q S T fuel (listed.setIfInBounds i true) (a.put oi.dst v) w) (hs:Region.noSelect ops=true:=by kernel_rfl) (hf:Region.free md ops listed i=true:=by kernel_rfl)
 (hr:(Region.ready md ops listed).contains i=true:=by kernel_rfl) (hl:U4 md ops T i=true:=by kernel_rfl) (hQ:∀c a w,Q (.panic c) (a.put oi.dst v) w->Q (.panic c) a w:=by exact fun _ _ _ h=>h) (hw:Region.wanted oi (yielded ops a.tmps)=true:=by rfl) (hS:S w:=by assumption):xB P md ops Q S T (fuel+1) listed a w:=
 zS hi hs hf hr hl hQ (.inl ⟨hw,hy⟩) hS h
theorem Qi {rb:Nat} {B:RBk} {own:Nat->Option ROwn} {r:RSy} {i:Nat} {tag:Int} {l:Ln} {W:World} (h:RAt W rb B own r) (hi:i<r.cores.length) (hc:r.cores[i]! = (tag,l)) (ay:l.ps≠[]) (lC:tag=0\/tag=1\/tag=2) (aT:l.ps.length<=64)
 (hb:∀p∈l.ps,(-1099511627776<=p.v-l.base/\p.v-l.base<=1099511627776)/\0<=p.w/\p.w<=20) (eC:-1152921504606846976<=l.base/\l.base<=1152921504606846976)
 (lp:¬yh (yg tag l).ps (yg tag l).cur<0) (DP:(z8 (yg tag l)).2.1=0)
 (hd:∀p∈(yg tag l).ps,IntKind.i64.wrap (p.v+zF p.w)=p.v+zF p.w/\IntKind.i64.wrap (p.v+zF p.w+4*zF p.w)=p.v+zF p.w+4*zF p.w)
 (x:Int) (hx:(z8 (yg tag l)).1=x) (ek:0<=x/\x<=100000000) (jx:Nat) (tx:Tk) (BQ:xr r.ts x=(jx:Int)) (GC:r.ts[jx]? = some tx) (xs:List G16) (i7:zq r.gs tx.group xs) (Oq:xs.length<=4) (hl:r.acc.length=16) (AN:r.ts.length<=64)
 (S:Nat->Sy) (ids:List Int) (iX:ids.Pairwise fun a b=>a<b) (m:Nat) (hm:ids.length=m)
 (h0:Rel (S 0) ⟨r.cores.set i (tag,(z8 (yg tag l)).2.2),r.ts,r.gs,xs.foldl xp r.acc,r.ps⟩)
 (ak:∀(q:Nat) (hq:q<ids.length) (r':RSy),Rel (S q) r'->r'.ts.length=m/\ids.Perm (r'.ts.map (·.id))/\∃j t xs,j<r'.ts.length/\r'.ts[j]? = some t/\xr r'.ts ids[q]=((j:Nat):Int)/\zq r'.gs t.group xs/\xs.length<=4 /\
   (((t.state≠2\/xs.any (yR r')=false)/\Rel (S (q+1)) r') \/
     (t.state=2/\xs.any (yR r')=true/\∃i tag l,t.core=((i:Nat):Int)/\i<r'.cores.length/\r'.cores[i]! = (tag,l)/\l.ps.length<=64/\(∀p∈l.ps,IntKind.i64.wrap (l.base-p.v)=l.base-p.v)/\¬yh l.ps t.id<0 /\
       Rel (S (q+1)) ⟨r'.cores.set i (tag,(zA l t.id).2.2),r'.ts.set j ⟨t.id,t.w,t.group,t.core,5,t.mask,(zA l t.id).1⟩,r'.gs,r'.acc,r'.ps⟩)))
 (ag:∀r',Rel (S m) r'->r'.ts.length=m) (C5:m<=64) :
 Calls Tryz.prog 36 #[.pointer (some ⟨rb,0,none⟩),I i] W fun e w'=>e=.returned (.tuple #[I x,I 0])/\RQ rb own (S m) W w':=by
 obtain⟨ca,cc,aQ,mA⟩:=h.coreCell;obtain⟨g,rfl,-,-,gc⟩:=mA i hi;have c0:=h.c0;have hq:=h.q i hi;rw[hc] at hq;have ij:=Y7 _ _ _ _ W hq lC aT ay hb eC;have iV:=(jk tag l).1;have sd:=fun W' (hq:QuAt W' B.qbs[i]! (B.qv i) tag (yg tag l))=>Zl _ _ _ _ W' hq (by rw[iV];exact aT) lp DP hd;obtain⟨l2,pG⟩:∃y,(z8 (yg tag l)).2.2=y:=⟨_,rfl⟩
 rw[hx,pG] at sd;rw[pG] at h0;obtain⟨N,hN⟩:∃N,r.cores.length=N:=⟨_,rfl⟩
 have HN:=lH hN;have HI:=lH hi;rw[aQ,hN] at c0;rw[hN] at hi;have sf:0<=(i:Int):=by omega
 have GA:(i:Int)<(N:Int):=by omega
 have HR:=lH h;have oP:=lH (h.oq i HI.out);have Oy:=lH sd;obtain⟨qb,na⟩:∃y,B.qbs[i]! = y:=⟨_,rfl⟩
 rw[na] at gc ij oP Oy;have pL:=lH na;have Cc:=lH iX;have HM:=lH hm;have H0:=lH h0;have lL:=lH ak;have mL:=lH ag;have RM:=lH BQ;have Rx:=lH GC;have oQ:=lH i7;have HL:=lH hl;have Gh:=lH AN;obtain⟨cur,mB⟩:∃y,(yg tag l).cur=y:=⟨_,rfl⟩
 rw[mB] at ij;clear h mA aQ hq hN na hc sd iX hm h0 ak ag BQ GC i7 hl AN hb eC hd DP lp hx pG iV ay lC aT mB;go_enter Tryz.func36,Tryz.ntmps36;go_wp2_with fail
 refine ij.mono ?_;rintro e w1 ⟨rfl,m7,aF⟩;have sy:=Oy.out w1 m7;have lh:=lH aF;clear ij m7 aF;go_wp2_with fail
 refine sy.mono ?_;rintro e w2 ⟨rfl,pQ,aC⟩;have E7:Touch (fun j=>j=qb\/(B.qv i).ownBlock=some j) W w2:=(lh.out.wider (fun k hk=>Or.inl hk)).self aC;have iN:=HR.out.setQ HI.out (by rw[pL.out];exact pQ) (E7.wider (fun k hk=>by rw[pL.out];exact hk)) (fun j hj=>.inl hj);have iA:=RStep.more (own:=own) (v':=B.qv i) (x:=.qrow i) E7 (fun k hk=>by
  rcases hk with rfl | hk
  · rw[oP.out];simp
  · rw[HR.out.oqr i HI.out k hk];simp) (fun j hj=>.inl (by rw[HR.out.oqr i HI.out j hj];simp))
 generalize ib:(RBk.mk B.crv B.trv B.srv B.nb B.tb B.ob B.gb B.qbs (fun x=>if x=i then B.qv i else B.qv x))=B2 at iN;generalize(fun k=>if (B.qv i).ownBlock=some k then some (ROwn.qrow i) else own k)=own2 at iN iA;obtain⟨sv,nQ,aa⟩:=iN.srow;obtain⟨sid,BU⟩:∃y,sv.map (·.1)=y:=⟨_,rfl⟩
 have A9:Hid (VP w2 B2.srv sid):=lH ⟨sv,BU,aa⟩;have Dx:Hid (sid.Nodup/\(∀y∈sid,0<=y/\y<=100000000)/\sid.length<=100000001):=lH (by
  refine⟨BU ▸ nQ.1,fun y hy=>?_,by rw[<- BU,List.length_map];exact nQ.len⟩;rw[<- BU] at hy;obtain⟨z,hz,rfl⟩:=List.mem_map.1 hy;exact nQ.2 z hz)
 obtain⟨ns,NQ⟩:∃y,sid.length=y:=⟨_,rfl⟩
 have G0:=lH NQ;have Tb:ns<=100000001:=by rw[<- NQ];exact Dx.out.2.2
 have nL:=lH iN;have iy:=lH iA;have c68:=iN.c68;obtain⟨sa,sc,JH,-⟩:=A9.out.form;have eF:rb<w2.heap.size:=iN.lt rb (by rw[iN.osys];simp);have JN:∀j,B2.srv.ownBlock=some j->j≠rb:=fun j hj e=>by
  have h1:=iN.osrow j hj;rw[e,iN.osys] at h1;simp at h1
 have EA:=lH (And.intro eF (And.intro c68 JN));have EL:=lH JH;clear iN iA nQ aa BU NQ sy pQ aC E7 c0 gc JH eF JN c68;go_wp2_with fail
 go_loopw [11,12] (fun y z wr=>∃k:Nat,k<=ns/\z=I k/\y=.bool ((sid.take k).any fun u=>decide (u=x))/\Hid (VP wr B2.srv sid/\Touch (fun j=>B2.srv.ownBlock=some j) w2 wr)) (fun _ z _=>ns-(intOf z).toNat)
 case atStart=>exact⟨0,Nat.zero_le _,rfl,rfl,lH ⟨A9.out,Touch.refl _ _⟩⟩
 case round=>
  obtain⟨k,hk,rfl,rfl,HQ⟩:=hrel;have aX:0<=(k:Int):=by omega
  obtain⟨Ht,E9⟩:=HQ.out;obtain⟨eF,c68,JN⟩:=EA.out;have c68':wr.cell? ⟨rb,68,none⟩=some (.slice sa ns sc):=(World.cell?_of_block (a:=⟨rb,68,none⟩) (E9.block rb eF (fun e=>JN rb e rfl))).trans (by rw[c68,EL.out,G0.out])
  by_cases aS:k<ns
  · have aw:k<sid.length:=by rw[G0.out];exact aS
    have Cn:(k:Int)<(ns:Int):=by omega
    obtain⟨a',c',iC,ae⟩:=Ht.form;rw[EL.out] at iC;simp only[Value.slice.injEq,true_and] at iC;obtain⟨LF,-⟩:=iC;subst LF;obtain⟨sg,sn,rfl,sgl,k0,k1,kf,kown,kset⟩:=ae k aw;have kf1:=kf (k*2+1);have iO:(sid.take (k+1)).any (fun u=>decide (u=x))=((sid.take k).any (fun u=>decide (u=x))||decide (sid[k]=x)):=by
     rw[List.take_succ_eq_append_getElem aw,List.any_append];simp
    obtain⟨y,hy⟩:∃y,sid[k]=y:=⟨_,rfl⟩
    rw[hy] at k0 iO;have Ak:=lH iO;have OF:=lH (And.intro kset kown);have Hw:=lH E9;have HSVr:=lH Ht;clear ae Ht E9 kset kown kf iO hy c68 JN;by_cases Ra:y=x
    · subst Ra;go_wp2_with fail
      go_roundw
      case rel=>exact⟨k+1,by omega,by go_num,by rw[Ak.out];simp,lH ⟨OF.out.1 _,Hw.out.setCell (t:=none) (.inl OF.out.2) _⟩⟩
      case measure=>simp[intOf];omega
    · go_wp2_with fail
      go_roundw
      case rel=>exact⟨k+1,by omega,by go_num,by rw[Ak.out];simp[Ra],lH ⟨HSVr.out,Hw.out⟩⟩
      case measure=>simp[intOf];omega
  · obtain rfl:k=ns:=by omega
    rw[List.take_of_length_le (by rw[G0.out];exact Nat.le_refl _)];obtain⟨wA,Aj⟩:∃y,y=wr:=⟨_,rfl⟩
    rw[<- Aj] at Ht E9 c68'⊢;obtain⟨sv,nQ,aa⟩:=Ht;have lQ:ZL sv:=⟨nQ ▸ Dx.out.1,fun y hy=>Dx.out.2.1 _ (by rw[<- nQ];exact List.mem_map_of_mem hy)⟩
    have C6:sv.length=k:=by rw[<- G0.out,<- nQ,List.length_map]
    have Hr:=nL.out.setS lQ aa E9;have Sv:=iy.out.trans (RStep.keep (own:=own2) E9 (fun j hj=>by rw[nL.out.osrow j hj];simp))
    have Aq:=lH Hr;have ME:=lH Sv;clear Aj E9 HQ;go_upto_if 86 with fail
    go_cut [11] from 22 (fun _ wB=>Hid (∃B3 own3,RAt wB rb B3 own3 ⟨r.cores.set i (tag,l2),r.ts,r.gs,r.acc,r.ps⟩/\RStep own own3 W wB))
    case first=>
     by_cases iO:(sid.any fun u=>decide (u=x))=true
     · rw[iO];go_wp2_with fail
       go_meet
       case rel=>exact lH ⟨B2,own2,Aq.out,ME.out⟩
     · have DM:(sid.any fun u=>decide (u=x))=false:=(Bool.not_eq_true _).mp iO;rw[DM];obtain⟨i0,SU,eG,aI,et⟩:=info_parts Kg;have eJ:=lH aa;have Dt:Hid (ZL (sv++[(x,1)])):=lH (by
        refine⟨?_,fun y hy=>?_⟩
        · rw[List.map_append,nQ];refine List.nodup_append.2 ⟨Dx.out.1,by simp,fun a ha b hb e=>?_⟩;simp only[List.map_cons,List.map_nil,List.mem_singleton] at hb;subst hb;subst e;have:=List.any_eq_false.1 DM a ha;simp at this
        · rcases List.mem_append.1 hy with hy | hy
          · exact lQ.2 y hy
          · rw[List.mem_singleton] at hy;subst hy;exact ek)
       have MH:=lH C6;have EP:Hid (B2.srv=.slice sa k sc):=lH (by rw[EL.out,G0.out]);rw[EP.out,C6] at aa;have G9:=lH aa;have IF:=Aq.out.live 68;have sZ:Hid (∀w3:World,(wA.alloc (.cells #[I x,I 1] 156)).grownBy w3 (Value.ownBlock (.slice sa k sc))->Touch (fun j=>B2.srv.ownBlock=some j) wA w3/\w3.heap[rb]? = wA.heap[rb]?/\w3.cell? ⟨rb,68,none⟩=some (.slice sa k sc)/\w3.frozen? ⟨rb,68,none⟩=false):=lH (fun w3 hg=>by
        have lR:Touch (fun j=>B2.srv.ownBlock=some j) wA w3:=(Touch.of_below ((Below.refl _ wA).alloc (Nat.le_refl _) _)).self ⟨hg.os,hg.tape,hg.output,hg.size,fun j hj hf=>hg.block j hj (fun e=>hf (by rw[EP.out];exact e.symm))⟩;have AK:w3.heap[rb]? = wA.heap[rb]?:=lR.block rb (Aq.out.lt rb (by rw[Aq.out.osys];simp)) (fun e=>EA.out.2.2 rb e rfl);exact⟨lR,AK,(World.cell?_of_block (a:=⟨rb,68,none⟩) AK).trans c68',(World.frozen?_of_block (a:=⟨rb,68,none⟩) AK).trans IF⟩)
       have GR:Hid (∀a2 q2 (w3:World),w3.ownsRow 0 156 2 (Value.slice a2 (k+1) q2) (k+1) (vg sv++[I x,I 1])->(wA.alloc (.cells #[I x,I 1] 156)).grownBy w3 (Value.ownBlock (.slice sa k sc)) ->
        (Value.ownBlock (.slice a2 (k+1) q2)=Value.ownBlock (.slice sa k sc)\/Value.ownBlock (.slice a2 (k+1) q2)=some (wA.alloc (.cells #[I x,I 1] 156)).heap.size) ->
        ∃B3 own3,RAt (w3.setCell ⟨rb,68,none⟩ (.slice a2 (k+1) q2)) rb B3 own3 ⟨r.cores.set i (tag,l2),r.ts,r.gs,r.acc,r.ps⟩/\RStep own own3 W (w3.setCell ⟨rb,68,none⟩ (.slice a2 (k+1) q2))):=lH (fun a2 q2 w3 eK eI nU=>by
        obtain⟨lR,AK,c68w,-⟩:=sZ.out w3 eI;have FU:∀j,Value.ownBlock (.slice a2 (k+1) q2)=some j->B2.srv.ownBlock=some j\/wA.heap.size<=j:=fun j hj=>by
         rcases nU with e | e
         · rw[e] at hj;left;rw[EP.out];exact hj
         · rw[e] at hj;right;simp only[Option.some.injEq] at hj;have:(wA.alloc (.cells #[I x,I 1] 156)).heap.size=wA.heap.size+1:=by simp
           omega
        have Ac:Touch (fun j=>j=rb\/B2.srv.ownBlock=some j) wA (w3.setCell ⟨rb,68,none⟩ (.slice a2 (k+1) q2)):=(lR.wider (G:=fun j=>j=rb\/B2.srv.ownBlock=some j) (fun j hj=>Or.inr hj)).setCell (t:=none) (c:=rb) (i:=68) (.inl (.inl rfl)) _;have lX:=Aq.out.newS (W':=w3.setCell ⟨rb,68,none⟩ (.slice a2 (k+1) q2)) (v':=.slice a2 (k+1) q2) (sv:=sv++[(x,1)]) (World.cell?_setCell_same _ _ _ c68w) (fun i hi=>by
         rw[za _ (by first | (simp;done) | (simp;omega))];exact World.cell?_of_block (a:=⟨rb,i,none⟩) AK) (fun i=>by
         rw[World.frozen?_setCell];exact World.frozen?_of_block (a:=⟨rb,i,none⟩) AK) Dt.out (by
         rw[List.length_append,MH.out,cD];exact zb eK (fun j hj=>Below.heap_setCell _ _ _ _ (fun e=>by
          replace e:j=rb:=e;subst e;rcases FU j hj with h | h
          · exact EA.out.2.2 j h rfl
          · have:=Aq.out.lt j (by rw[Aq.out.osys];simp);omega))) FU Ac
        exact⟨_,_,lX,ME.out.trans (RStep.more (own:=own2) (x:=.srow) Ac (fun j hj=>by
         rcases hj with rfl | hj
         · rw[Aq.out.osys];simp
         · rw[Aq.out.osrow j hj];simp) (fun j hj=>by
         rcases FU j hj with h | h
         · left;rw[Aq.out.osrow j h];simp
         · exact .inr h))⟩)
       clear aa nQ lQ C6 iO;go_wp2_with (at_builtin;refine yK rfl _ _ _ rfl 0 156 i0 _ 2 16 Tryz.underlying54 SU eG aI et rfl (by decide) (.slice sa k sc) k _ rfl (G9.out.alloc _) (some ⟨wA.heap.size,0,none⟩) 1 1 [I x,I 1] rfl (vL (cs:=#[I x,I 1]) (by simp[Value.oneCell'])) (by unfold maxLen;omega) (by omega) (Nat.zero_le _) (k+1) rfl _ rfl ?_;intro a2 q2 w3 eK eI nU;have lE:=sZ.out w3 eI;have c68w:=lE.2.2.1;have fz68:=lE.2.2.2)
       go_meet
       case rel=>exact lH (GR.out a2 q2 w3 eK eI nU)
    case rest=>
     obtain⟨B3,own3,mE,rZ⟩:=hcut.out;have aE:=yd rb B3 own3 _ x wc mE (by have:=Gh.out;show r.ts.length<=1000;omega);simp only at aE;rw[RM.out] at aE;obtain⟨tg,tn,tc,sj,rU,eP,Eo,-,-,t2,-,-,-,-⟩:=mE.row_ (k:=jx) (t:=tx) Rx.out;simp only at rU Eo;have c1:=mE.c1;rw[sj] at c1;simp only at c1;obtain⟨nt,PL⟩:∃y,r.ts.length=y:=⟨_,rfl⟩
     rw[PL] at c1 rU;have oh:0<=(jx:Int):=by omega
     have mZ:(jx:Int)<(nt:Int):=by omega
     have c3:=mE.c3;have LM:=mE.lt B3.gb (by rw[mE.ogb];simp);have mR:=jP B3.gb r.gs tx.group xs wc.drew (mE.below (Below.refl _ wc).drew).groups oQ.out (by omega);obtain⟨tgr,JS⟩:∃y,tx.group=y:=⟨_,rfl⟩
     rw[JS] at t2 mR;have sN:=lH mE;have rW:=lH rZ;clear mE rZ hcut sj eP Eo A9 Aq ME aa nQ lQ C6 PL JS;go_wp2_with fail
     refine aE.mono ?_;rintro e w3 ⟨rfl,rfl⟩;go_wp2_with fail
     go_still_tail 12,(by kernel_rfl)
     change wpList _ _ _ _ _ (World.drew _);go_wp2_with fail
     refine mR.mono ?_;rintro e w4 ⟨v,rfl,Ej,oE⟩;obtain⟨pa,pc,rfl,PP⟩:=fp Ej;have DH:=(sN.out.below (Below.refl _ wc).drew).below oE;have sR:=rW.out.trans ((RStep.below (own:=own3) (Below.refl _ wc).drew).trans (RStep.below oE))
     have Ap:=lH DH;have EK:=lH sR;have RL:=lH PP;obtain⟨np,IT⟩:∃y,xs.length=y:=⟨_,rfl⟩
     have OI:=lH IT;have Mm:=lH (show∀k,own3 k≠none->k<wc.drew.heap.size from fun k hk=>sN.out.lt k hk);rw[IT] at Oq;rw[IT];clear DH sR PP Ej oE mR aE c1 c3 t2 LM IT;go_wp2_with fail
     go_loopw [15] (fun z wr=>∃k:Nat,k<=np/\z=I k/\Hid (RAt wr rb B3 own3 ⟨r.cores.set i (tag,l2),r.ts,r.gs,(xs.take k).foldl xp r.acc,r.ps⟩/\RStep own own3 W wr/\Touch (fun k=>own3 k≠none) w4 wr)) (fun z _=>np-(intOf z).toNat)
     case atStart=>exact⟨0,Nat.zero_le _,rfl,lH ⟨Ap.out,EK.out,Touch.refl _ _⟩⟩
     case round=>
      obtain⟨k,hk,rfl,HQ⟩:=hrel;have aX:0<=(k:Int):=by omega
      by_cases aS:k<np
      · have D0:k<xs.length:=by rw[OI.out];exact aS
        have Cn:(k:Int)<(np:Int):=by omega
        obtain⟨pg,rfl,pg1,pg2,pgc⟩:=RL.out k _ (List.getElem?_eq_getElem D0);obtain⟨LB,oG,DK⟩:=HQ.out;have eK:own3 pg=none:=by
         cases e:own3 pg with
         | none=>rfl
         | some o=>have:=Mm.out pg (by rw[e];simp);omega
        have pgr:wr.cell? ⟨pg,k,none⟩=some (I (xs[k]'D0).1):=(World.cell?_of_block (a:=⟨pg,k,none⟩) (DK.block pg pg2 (by rw[eK];simp))).trans pgc;have ak:=uL xp r.acc xs k D0;obtain⟨ac,nM⟩:∃ac,(xs.take k).foldl xp r.acc=ac:=⟨_,rfl⟩
        have Bp:ac.length=16:=by rw[<- nM,QG];exact HL.out
        rw[nM] at ak LB;obtain⟨⟨u,Ob,To⟩,P2⟩:∃y,xs[k]'D0=y:=⟨_,rfl⟩
        rw[P2] at pgr ak;obtain⟨j,rfl⟩:=Int.eq_ofNat_of_zero_le Ob;have ml:j<16:=by omega
        have DY:(j:Int)<16:=by omega
        have oh:0<=(j:Int):=by omega
        simp only at pgr;obtain⟨a0,a1,a2,a3⟩:=LB.acc j ml;simp only at a0 a1 a2 a3;rw[KF] at ak;generalize(ac.getD j default).1=q0 at a0 ak;generalize(ac.getD j default).2.1=q1 at a1 ak;generalize(ac.getD j default).2.2.1=q2 at a2 ak;generalize(ac.getD j default).2.2.2=q3 at a3 ak;have rV:=fun W'=>Qp q0 q1 q2 q3 W';obtain⟨⟨⟨u0,u1,u2,u3⟩,ue⟩,hu⟩:∃y,xu q0 q1 q2 q3=y:=⟨_,rfl⟩
        rw[hu] at rV ak;simp only[vr] at rV ak;have Ha:=lH ak;have Ev:=lH Bp;have OL:Hid (pg<wr.heap.size):=lH (by have:=DK.size;omega);have Lu:=lH oG;have G8:=lH LB;have s8:=lH DK;have re:Hid (∀w:World,Below wr.heap.size wr w->UsS wr pg k rb j q0 q1 q2 q3 w):=lH (fun w hb=>by
         have eF:=G8.out.lt rb (by rw[G8.out.osys];simp);exact⟨(hb.cell (p:=⟨pg,k,none⟩) OL.out).trans pgr,⟨(hb.cell (p:=⟨rb,4+j*4,none⟩) eF).trans a0,(hb.cell (p:=⟨rb,4+j*4+1,none⟩) eF).trans a1,(hb.cell (p:=⟨rb,4+j*4+2,none⟩) eF).trans a2,(hb.cell (p:=⟨rb,4+j*4+3,none⟩) eF).trans a3⟩,lH hb⟩)
        have CB:=lH pgr;clear LB oG DK ak Bp nM hu pgc P2 pgr a0 a1 a2 a3;go_upto_region 24 with fail
        go_cut [16,17] from 114 to 143 (fun s16 s17 wc=>∃b:Nat,s16=.pointer (some ⟨b,0,none⟩)/\s17=I ue/\Hid (Below wr.heap.size wr wc/\wc.heap[b]? = some (.cells #[I u0,I u1,I u2,I u3] 52 (0,0))))
        case first=>
         have lr:=re.out wr.drew (Below.refl _ wr).drew;refine zK (S:=UsS wr pg k rb j q0 q1 q2 q3) (T:=[15]) (by kernel_rfl) ?_;refine wT 0 ?_;refine wT 1 ?_;refine wT 2 ?_;refine wT 3 ?_;refine wT 4 ?_;refine wT 5 ?_;refine wT 6 ?_;refine wT 7 ?_;refine wT 8 ?_;simp only[Act.put,aP,List.set];refine wZ (i:=9) (j:=13) (by kernel_rfl) rfl rfl (by kernel_rfl) ?_ ?_;case' refine_2=>
          intro K hK;go_simp
          have ab:Below wr.heap.size wr (wr.drew.alloc (.cells #[I 0,I 0,I 0,I 0] 52)):=(Below.refl _ wr).drew.alloc (Nat.le_refl _) _;refine hK _ _ (re.out _ ab) ?_;clear hK;refine ze (i:=9) (by kernel_rfl) rfl (by kernel_rfl) ?_;intro K hK;go_simp
          go_at_call 80
          refine(rV _).mono ?_;rintro e w9 ⟨rfl,eQ⟩;have eN:w9.heap[wr.heap.size]? = some (.cells #[I 0,I 0,I 0,I 0] 52 (0,0)):=(eQ.block wr.heap.size (by simp)).trans (heap_alloc_new wr.drew _)
          have ar:Below wr.heap.size wr w9:=ab.trans (eQ.mono ab.size)
          have eo:=re.out w9 ar;have ir:wr.heap.size<=wr.heap.size:=Nat.le_refl _;refine hK _ _ eo ?_;clear hK ab eQ lr;refine wT 10 ?_;refine wT 11 ?_;refine wT 12 ?_;simp only[Act.put,aP,List.set];obtain⟨y0,y1,y2,y3⟩:=zi eN;have f9:=zc eN;have f0:=f9 0;have f1:=f9 1;have f2:=f9 2;have f3:=f9 3;have ey:=vt eN (I u0) (I u1) (I u2) (I u3);have aK:Below wr.heap.size wr ((((w9.setCell ⟨wr.heap.size,0,none⟩ (I u0)).setCell ⟨wr.heap.size,1,none⟩ (I u1)).setCell ⟨wr.heap.size,2,none⟩ (I u2)).setCell ⟨wr.heap.size,3,none⟩ (I u3)):=Below.setCell (Below.setCell (Below.setCell (Below.setCell ar ir _) ir _) ir _) ir _;refine ze (i:=14) (by kernel_rfl) rfl (by kernel_rfl) ?_;intro K hK;go_simp
          refine hK _ _ (re.out _ aK) ?_;clear hK;generalize((((w9.setCell ⟨wr.heap.size,0,none⟩ (I u0)).setCell ⟨wr.heap.size,1,none⟩ (I u1)).setCell ⟨wr.heap.size,2,none⟩ (I u2)).setCell ⟨wr.heap.size,3,none⟩ (I u3))=w5 at ey aK⊢;refine zk (i:=15) (by kernel_rfl) rfl (by kernel_rfl) ?_;intro K hK;go_simp
          refine hK _ _ ?_;clear hK;refine zy (by kernel_rfl) ?_ _;go_wp2_with fail
          go_meet
          case rel=>exact⟨wr.heap.size,rfl,rfl,lH ⟨aK,ey⟩⟩
         case' refine_1=>
          intro K hK;go_simp
          go_at_call 80
          refine(rV _).mono ?_;rintro e w8 ⟨rfl,eQ⟩;have ab:Below wr.heap.size wr w8:=(Below.refl _ wr).drew.trans eQ;have ny:=re.out w8 ab;refine hK _ _ ny ?_;clear hK eQ lr;refine wT 10 ?_;refine wT 11 ?_;refine wT 12 ?_;simp only[Act.put,aP,List.set];refine ze (i:=13) (by kernel_rfl) rfl (by kernel_rfl) ?_;intro K hK;go_simp
          have ar:Below wr.heap.size wr (w8.alloc (.cells #[I 0,I 0,I 0,I 0] 52)):=ab.alloc ab.size _;have eN:=heap_alloc_new w8 (.cells #[I 0,I 0,I 0,I 0] 52);have ir:wr.heap.size<=w8.heap.size:=ab.size;have eo:=re.out _ ar;refine hK _ _ eo ?_;clear hK ab ny;generalize w8.alloc (.cells #[I 0,I 0,I 0,I 0] 52)=w9 at ar eN eo⊢;obtain⟨y0,y1,y2,y3⟩:=zi eN;have f9:=zc eN;have f0:=f9 0;have f1:=f9 1;have f2:=f9 2;have f3:=f9 3;have ey:=vt eN (I u0) (I u1) (I u2) (I u3);have aK:Below wr.heap.size wr ((((w9.setCell ⟨w8.heap.size,0,none⟩ (I u0)).setCell ⟨w8.heap.size,1,none⟩ (I u1)).setCell ⟨w8.heap.size,2,none⟩ (I u2)).setCell ⟨w8.heap.size,3,none⟩ (I u3)):=Below.setCell (Below.setCell (Below.setCell (Below.setCell ar ir _) ir _) ir _) ir _;refine ze (i:=14) (by kernel_rfl) rfl (by kernel_rfl) ?_;intro K hK;go_simp
          refine hK _ _ (re.out _ aK) ?_;clear hK;generalize((((w9.setCell ⟨w8.heap.size,0,none⟩ (I u0)).setCell ⟨w8.heap.size,1,none⟩ (I u1)).setCell ⟨w8.heap.size,2,none⟩ (I u2)).setCell ⟨w8.heap.size,3,none⟩ (I u3))=w5 at ey aK⊢;refine zk (i:=15) (by kernel_rfl) rfl (by kernel_rfl) ?_;intro K hK;go_simp
          refine hK _ _ ?_;clear hK;refine zy (by kernel_rfl) ?_ _;go_wp2_with fail
          go_meet
          case rel=>exact⟨w8.heap.size,rfl,rfl,lH ⟨aK,ey⟩⟩
        case rest=>
         obtain⟨b,rfl,rfl,HW⟩:=hcut;have Dv:=lH (G8.out.below HW.out.1);have pM:=lH (Lu.out.trans (RStep.below (own:=own3) HW.out.1));have EQ:=lH (s8.out.self (Touch.of_below HW.out.1));obtain⟨z0,z1,z2,z3⟩:=zi HW.out.2;have pgr5:wc.cell? ⟨pg,k,none⟩=some (I (j:Int)):=(HW.out.1.cell (p:=⟨pg,k,none⟩) OL.out).trans CB.out;by_cases Dj:ue=0
         · subst Dj;have mV:=Dv.out;obtain⟨a0,a1,a2,a3⟩:=mV.acc j ml;simp only at a0 a1 a2 a3;have l0:=mV.live (4+j*4);have l1:=mV.live (4+j*4+1);have l2':=mV.live (4+j*4+2);have l3:=mV.live (4+j*4+3);obtain⟨tY,CI⟩:=mV.accSet j ml Ev.out u0 u1 u2 u3;have aO:(xs.take (k+1)).foldl xp r.acc=ac.set j (u0,u1,u2,u3):=by rw[Ha.out,if_pos rfl]
           have pC:Touch (fun k=>own3 k≠none) wc (kM wc rb (4+j*4) u0 u1 u2 u3):=CI.touch;have au:Hid (RAt (World.drew (kM wc rb (4+j*4) u0 u1 u2 u3)) rb B3 own3 ⟨r.cores.set i (tag,l2),r.ts,r.gs,(xs.take (k+1)).foldl xp r.acc,r.ps⟩/\RStep own own3 W (World.drew (kM wc rb (4+j*4) u0 u1 u2 u3))/\Touch (fun k=>own3 k≠none) w4 (World.drew (kM wc rb (4+j*4) u0 u1 u2 u3))):=lH (by
            rw[aO];exact⟨tY.below (Below.refl _ _).drew,(pM.out.trans CI).trans (RStep.below (Below.refl _ _).drew),(EQ.out.self pC).drew⟩)
           clear mV tY CI pC aO;go_wp2_with fail
           go_still_tail 9,(by kernel_rfl)
           change wpList _ _ _ _ _ (World.drew _);go_wp2_with fail
           simp only[kM] at au;go_roundw
           case rel=>exact⟨k+1,aS,by go_num,au⟩
           case measure=>simp[intOf];omega
         · have au:Hid (RAt wc rb B3 own3 ⟨r.cores.set i (tag,l2),r.ts,r.gs,(xs.take (k+1)).foldl xp r.acc,r.ps⟩/\RStep own own3 W wc/\Touch (fun k=>own3 k≠none) w4 wc):=lH (by
            rw[Ha.out,if_neg Dj];exact⟨Dv.out,pM.out,EQ.out⟩)
           go_wp2_with fail
           (first | go_roundw | (refine⟨?_,?measure⟩;(repeat apply Exists.intro);refine⟨?rel,rfl⟩))
           case rel=>exact⟨k+1,aS,by go_num,au⟩
           case measure=>simp[intOf];omega
      · obtain rfl:k=np:=by omega
        have OM:Hid (RQ rb own (S 0) W wr):=lH (by
         obtain⟨h1,h2,-⟩:=HQ.out;rw[List.take_of_length_le (by rw[OI.out];exact Nat.le_refl _)] at h1;exact⟨_,_,_,h1,H0.out,h2⟩)
        clear HQ;obtain⟨wD,P6⟩:∃y,y=wr:=⟨_,rfl⟩
        rw[<- P6] at OM⊢;clear P6;go_wp2_with fail
        go_loopw [18] (fun z wr=>∃q:Nat,q<=m/\z=I q/\Hid (RQ rb own (S q) W wr)) (fun z _=>m-(intOf z).toNat)
        case atStart=>exact⟨0,Nat.zero_le _,rfl,OM⟩
        case round=>
         obtain⟨q,hq,rfl,HQq⟩:=hrel;have Da:0<=(q:Int):=by omega
         obtain⟨B',own',r',eS,AW,aG⟩:=HQq.out;by_cases oy:q<m
         · have pH:(q:Int)<(m:Int):=by omega
           have nO:q<ids.length:=by rw[HM.out];exact oy
           obtain⟨ol,eD,j,t,ys,iK,hj,hp,hx,Es,nf⟩:=lL.out q nO r' AW;have Dn:Hid (∀W',Below wr.heap.size wr W'->Calls Tryz.prog 81 #[.pointer (some ⟨rb,0,none⟩),I q] W' fun e w'=>e=.returned (I (xr r'.ts ids[q]))/\Below W'.heap.size W' w'):=lH (fun W' hb=>qE rb B' own' r' ids q nO W' (eS.below hb) (by omega) eD Cc.out);rw[hp] at Dn;have HA':=lH eS;have HS':=lH aG;have HC:=lH nf;obtain⟨g,n',c,hv,aw,ho,hn,k0,k1,k2,k3,k4,k5,k6⟩:=eS.row_ hj;have c1:=eS.c1;rw[hv,ol] at c1;have oh:0<=(j:Int):=by omega
           have PD:(j:Int)<(m:Int):=by omega
           have HJ:=lH hj;have HX:=lH (And.intro hx Es);have HV:=lH (And.intro hv ho);have eL:=eS.lt g (by rw[ho];simp);have eF:=eS.lt rb (by rw[eS.osys];simp);obtain⟨tid,tw,tg,tc,tst,tm,tl⟩:=t;simp only at HC HX k0 k1 k2 k3 k4 k5 k6;have re:Hid (∀w:World,Below wr.heap.size wr w->HoS wr rb g j (.slice (some ⟨g,0,none⟩) m c) ⟨tid,tw,tg,tc,tst,tm,tl⟩ w):=lH (fun w hb=>
            ⟨(hb.cell (p:=⟨rb,1,none⟩) eF).trans c1,⟨(hb.cell (p:=⟨g,j*7,none⟩) eL).trans k0,(hb.cell (p:=⟨g,j*7+1,none⟩) eL).trans k1,(hb.cell (p:=⟨g,j*7+2,none⟩) eL).trans k2,(hb.cell (p:=⟨g,j*7+3,none⟩) eL).trans k3,(hb.cell (p:=⟨g,j*7+4,none⟩) eL).trans k4,(hb.cell (p:=⟨g,j*7+5,none⟩) eL).trans k5,(hb.cell (p:=⟨g,j*7+6,none⟩) eL).trans k6⟩,lH hb⟩)
           have Cf:=lH (And.intro eD hp);clear eS AW aG nf eD hx Es hp hj hv ho hn aw k0 k1 k2 k3 k4 k5 k6 eL eF;go_upto_region 30 with fail
           go_cut [19] from 144 to 203 (fun s19 wc=>∃b:Nat,s19=.pointer (some ⟨b,0,none⟩)/\Hid (Below wr.heap.size wr wc/\yZ wc b ⟨tid,tw,tg,tc,tst,tm,tl⟩/\wr.heap.size<=b))
           case first=>
            have lr:=re.out wr.drew (Below.refl _ wr).drew;refine zK (S:=HoS wr rb g j (.slice (some ⟨g,0,none⟩) m c) ⟨tid,tw,tg,tc,tst,tm,tl⟩) (T:=[10]) (by kernel_rfl) ?_;refine wT 0 ?_;refine wT 1 ?_;refine wT 2 ?_;refine wT 3 ?_;refine wT 4 ?_;refine wT 5 ?_;simp only[Act.put,aP,List.set];refine wZ (i:=6) (j:=9) (by kernel_rfl) rfl rfl (by kernel_rfl) ?_ ?_;case' refine_2=>
             intro K hK;go_simp
             have ab:Below wr.heap.size wr (wr.drew.alloc (.cells #[I 0,I 0,I 0,I 0,I 0,.int .u16 0,I 0] 62)):=(Below.refl _ wr).drew.alloc (Nat.le_refl _) _;refine hK _ _ (re.out _ ab) ?_;clear hK;refine ze (i:=6) (by kernel_rfl) rfl (by kernel_rfl) ?_;intro K hK;go_simp
             go_at_call 81
             refine(Dn.out _ ab).mono ?_;rintro e w9 ⟨rfl,eQ⟩;have eN:yZ w9 wr.heap.size ⟨0,0,0,0,0,0,0⟩:=(eQ.block wr.heap.size (by simp)).trans (heap_alloc_new wr.drew _)
             have ar:Below wr.heap.size wr w9:=ab.trans (eQ.mono ab.size)
             have eo:=re.out w9 ar;have ir:wr.heap.size<=wr.heap.size:=Nat.le_refl _;refine hK _ _ eo ?_;clear hK ab eQ lr;refine wT 7 ?_;refine wT 8 ?_;simp only[Act.put,aP,List.set];obtain⟨⟨y0,y1,y2,y3,y4,y5,y6⟩,yf⟩:=eN.cells;have f0:=yf 0;have f1:=yf 1;have f2:=yf 2;have f3:=yf 3;have f4:=yf 4;have f5:=yf 5;have f6:=yf 6;have ey:=eN.put tid tw tg tc tst tm tl;have aK:Below wr.heap.size wr (xA w9 (wr.heap.size) ⟨tid,tw,tg,tc,tst,tm,tl⟩):=vO ar ir;unfold xA at aK;simp only at aK ey;refine zk (i:=10) (by kernel_rfl) rfl (by kernel_rfl) ?_;intro K hK;go_simp
             refine hK _ _ ?_;clear hK;generalize(((((((w9.setCell ⟨wr.heap.size,0,none⟩ (I tid)).setCell ⟨wr.heap.size,1,none⟩ (I tw)).setCell ⟨wr.heap.size,2,none⟩ (I tg)).setCell ⟨wr.heap.size,3,none⟩ (I tc)).setCell ⟨wr.heap.size,4,none⟩ (I tst)).setCell ⟨wr.heap.size,5,none⟩ (.int .u16 tm)).setCell ⟨wr.heap.size,6,none⟩ (I tl))=w5 at ey aK⊢;refine zy (by kernel_rfl) ?_ _;go_wp2_with fail
             go_meet
             case rel=>exact⟨wr.heap.size,rfl,lH ⟨aK,ey,ir⟩⟩
            case' refine_1=>
             intro K hK;go_simp
             go_at_call 81
             refine(Dn.out _ (Below.refl _ wr).drew).mono ?_;rintro e w8 ⟨rfl,eQ⟩;have ab:Below wr.heap.size wr w8:=(Below.refl _ wr).drew.trans eQ;have ny:=re.out w8 ab;refine hK _ _ ny ?_;clear hK eQ lr;refine wT 7 ?_;refine wT 8 ?_;simp only[Act.put,aP,List.set];refine ze (i:=9) (by kernel_rfl) rfl (by kernel_rfl) ?_;intro K hK;go_simp
             have ar:Below wr.heap.size wr (w8.alloc (.cells #[I 0,I 0,I 0,I 0,I 0,.int .u16 0,I 0] 62)):=ab.alloc ab.size _;have eN:yZ (w8.alloc (.cells #[I 0,I 0,I 0,I 0,I 0,.int .u16 0,I 0] 62)) w8.heap.size ⟨0,0,0,0,0,0,0⟩:=heap_alloc_new w8 _;have ir:wr.heap.size<=w8.heap.size:=ab.size;have eo:=re.out _ ar;refine hK _ _ eo ?_;clear hK ab ny;generalize w8.alloc (.cells #[I 0,I 0,I 0,I 0,I 0,.int .u16 0,I 0] 62)=w9 at ar eN eo⊢;obtain⟨⟨y0,y1,y2,y3,y4,y5,y6⟩,yf⟩:=eN.cells;have f0:=yf 0;have f1:=yf 1;have f2:=yf 2;have f3:=yf 3;have f4:=yf 4;have f5:=yf 5;have f6:=yf 6;have ey:=eN.put tid tw tg tc tst tm tl;have aK:Below wr.heap.size wr (xA w9 (w8.heap.size) ⟨tid,tw,tg,tc,tst,tm,tl⟩):=vO ar ir;unfold xA at aK;simp only at aK ey;refine zk (i:=10) (by kernel_rfl) rfl (by kernel_rfl) ?_;intro K hK;go_simp
             refine hK _ _ ?_;clear hK;generalize(((((((w9.setCell ⟨w8.heap.size,0,none⟩ (I tid)).setCell ⟨w8.heap.size,1,none⟩ (I tw)).setCell ⟨w8.heap.size,2,none⟩ (I tg)).setCell ⟨w8.heap.size,3,none⟩ (I tc)).setCell ⟨w8.heap.size,4,none⟩ (I tst)).setCell ⟨w8.heap.size,5,none⟩ (.int .u16 tm)).setCell ⟨w8.heap.size,6,none⟩ (I tl))=w5 at ey aK⊢;refine zy (by kernel_rfl) ?_ _;go_wp2_with fail
             go_meet
             case rel=>exact⟨w8.heap.size,rfl,lH ⟨aK,ey,ir⟩⟩
           case rest=>
           obtain⟨b,rfl,HW⟩:=hcut;have ew:Hid (Below wr.heap.size wr wc):=lH HW.out.1;have nB:Hid (yZ wc b ⟨tid,tw,tg,tc,tst,tm,tl⟩):=lH HW.out.2.1;have Rf:Hid (wr.heap.size<=b):=lH HW.out.2.2;obtain⟨⟨x0,x1,x2,x3,x4,x5,x6⟩,-⟩:=nB.out.cells;simp only at x0 x1 x2 x3 x4 x5 x6;clear HW;have il:=ub rb B' own' r' tg ys _ (HA'.out.below ew.out) HX.out.1 (by have:=HX.out.2;omega);by_cases h2:tst=2
           · subst h2;by_cases hh:ys.any (yR r')=true
             · rw[hh] at il;go_wp2_with fail
               refine il.mono ?_;rintro e w2 ⟨rfl,ar⟩;obtain⟨i1,tag1,l1,DV,BC,Ih,D1,Ct,I3,Ei⟩:∃(i1:Nat) (tag1:Int) (l1:Ln),tc=(i1:Int)/\i1<r'.cores.length/\r'.cores[i1]! = (tag1,l1)/\l1.ps.length<=64/\(∀p∈l1.ps,IntKind.i64.wrap (l1.base-p.v)=l1.base-p.v)/\0<=yh l1.ps tid /\
                Rel (S (q+1)) ⟨r'.cores.set i1 (tag1,(zA l1 tid).2.2),r'.ts.set j ⟨tid,tw,tg,tc,5,tm,(zA l1 tid).1⟩,r'.gs,r'.acc,r'.ps⟩:=by
                rcases HC.out with⟨h,-⟩ | ⟨-,-,h⟩
                · rcases h with h | h
                  · exact absurd rfl h
                  · rw[hh] at h;cases h
                · exact h
               subst DV;have M9:Below wr.heap.size wr w2:=ew.out.trans (ar.mono ew.out.size)
               have iN:=HA'.out.below M9;have nV:=nB.out.same (ar.block _ nB.out.lt);obtain⟨⟨e0,e1,e2,e3,e4,e5,e6⟩,-⟩:=nV.cells;obtain⟨ca,cc1,aQ,mA⟩:=iN.coreCell;obtain⟨cg,rfl,nD,mg,Gv⟩:=mA i1 BC;have c0:=iN.c0;obtain⟨NC,AV⟩:∃y,r'.cores.length=y:=⟨_,rfl⟩
               rw[aQ,AV] at c0;have SS:0<=(i1:Int):=by omega
               have ST:(i1:Int)<(NC:Int):=by omega
               have mf:=lH Ei;have ma:=fun W' (hq:QuAt W' B'.qbs[i1]! (B'.qv i1) tag1 l1)=>uH B'.qbs[i1]! (B'.qv i1) tag1 l1 tid W' hq D1 Ct (by omega);have po:=iN.oq i1 BC;have DT:own' g=some .trow:=HV.out.2;have Dd:=iN.osys;obtain⟨qb1,Db⟩:∃y,B'.qbs[i1]! = y:=⟨_,rfl⟩
               rw[Db] at ma Gv po;have pJ:Hid (rb≠qb1/\cg≠qb1/\g≠qb1):=lH (by
                refine⟨?_,?_,?_⟩ <;> intro e
                · rw[e,po] at Dd;simp at Dd
                · rw[e,po] at mg;simp at mg
                · rw[e,po] at DT;simp at DT)
               have Eh:=iN.lt rb (by rw[Dd];simp);have DO:=iN.lt cg (by rw[mg];simp);have BB:=iN.lt g (by rw[DT];simp);have I4:qb1<wr.heap.size:=HA'.out.lt qb1 (by rw[po];simp);have io:=lH (And.intro Eh (And.intro DO (And.intro BB (And.intro nV.lt I4))));have pL:=lH Db;have oa:=lH BC;have oP:=lH po;have Rq:=lH DT;have E4:=iN.below (Below.refl _ w2).drew;have nL:=lH E4;have iy:=lH ((HS'.out.trans (RStep.below (own:=own') M9)).trans (RStep.below (own:=own') (Below.refl _ w2).drew));have mn:=ma w2.drew (by have:=E4.q i1 BC;rw[Ih,Db] at this;exact this);have lr:QcS rb cg i1 qb1 b (.slice (some ⟨cg,0,none⟩) NC cc1) tid i1 w2.drew:=⟨c0,Gv,e0,e3⟩
               have AR:=lH lr;have rD:Hid (∀w9:World,Touch (fun k=>k=qb1) w2.drew w9->QcS rb cg i1 qb1 b (.slice (some ⟨cg,0,none⟩) NC cc1) tid i1 w9):=lH (fun w9 hT=>by
                obtain⟨d1,d2,d3⟩:=pJ.out;obtain⟨l1,l2,l3,l4,l5⟩:=io.out;have Pm:=Rf.out;have e:∀k,k<w2.heap.size->k≠qb1->w9.heap[k]? = w2.heap[k]?:=fun k hk hn=>hT.block k hk hn;obtain⟨s1,s2,s3,s4⟩:=AR.out;exact⟨(World.cell?_of_block (a:=⟨rb,0,none⟩) (e rb l1 d1)).trans s1,(World.cell?_of_block (a:=⟨cg,i1,none⟩) (e cg l2 d2)).trans s2,(World.cell?_of_block (a:=⟨b,0,none⟩) (e b l4 (by omega))).trans s3,(World.cell?_of_block (a:=⟨b,3,none⟩) (e b l4 (by omega))).trans s4⟩)
               obtain⟨lv,II⟩:∃y,zA l1 tid=y:=⟨_,rfl⟩
               rw[II] at mn mf;obtain⟨lag9,er9,ln9⟩:=lv;simp only at mn mf;clear ma po DT Dd Db Eh DO BB I4 E4 M9 iN ar il mA aQ AV mg nD BC Ih D1 Ct I3 Ei II HC e1 e2 e4 e5 e6 nV;go_wp2_with fail
               go_region_held3 (QcS rb cg i1 qb1 b (.slice (some ⟨cg,0,none⟩) NC cc1) tid i1) (first | (with_reducible exact lr) | (with_reducible exact eo)) (first | (go_at_call 73;refine mn.mono ?_;rintro e w9 ⟨rfl,v9,rh,iE,nK⟩;have eo:=rD.out w9 iE) | fail)
               have mO:=nL.out.setQ oa.out (by rw[pL.out];exact rh) (iE.wider (fun k hk=>.inl (by rw[pL.out];exact hk))) (fun j hj=>.inr (nK j hj));have sH:RStep own (fun k=>if v9.ownBlock=some k then some (.qrow i1) else own' k) W w9:=iy.out.trans (RStep.more (x:=.qrow i1) iE (fun k hk=>by rw[hk,oP.out];simp) (fun j hj=>.inr (nK j hj)))
               generalize nw:(RBk.mk B'.crv B'.trv B'.srv B'.nb B'.tb B'.ob B'.gb B'.qbs (fun x=>if x=i1 then v9 else B'.qv x))=B9 at mO;have tQ:B9.trv=.slice (some ⟨g,0,none⟩) r'.ts.length c:=by rw[<- nw];exact HV.out.1
               have Fv:(fun k=>if v9.ownBlock=some k then some (ROwn.qrow i1) else own' k) g≠none:=by simp only;split <;> simp[Rq.out]
               generalize(fun k=>if v9.ownBlock=some k then some (ROwn.qrow i1) else own' k)=own9 at mO sH Fv;have Fj:=mO.c1;rw[tQ,ol] at Fj;have I9:rb<w9.heap.size:=mO.lt rb (by rw[mO.osys];simp);have Iv:g≠rb:=fun e=>by have h1:=mO.otrow g (by rw[tQ];rfl);rw[e,mO.osys] at h1;simp at h1
               have sZ:Hid (∀w,Below w9.heap.size w9 w->w.cell? ⟨rb,1,none⟩=some (.slice (some ⟨g,0,none⟩) m c)):=lH (fun w hb=>(hb.cell (p:=⟨rb,1,none⟩) I9).trans Fj);have A4:Hid (∀w,Below w9.heap.size w9 w->(w.setCell ⟨g,j*7+6,none⟩ (I lag9)).cell? ⟨rb,1,none⟩=some (.slice (some ⟨g,0,none⟩) m c)):=lH (fun w hb=>by rw[za _ (fun e=>Iv (by injection e with e1;exact e1.symm))];exact sZ.out w hb);have GP:Hid (∀W',Below w9.heap.size w9 W'->Calls Tryz.prog 81 #[.pointer (some ⟨rb,0,none⟩),I q] W' fun e w'=>e=.returned (I j)/\Below W'.heap.size W' w'):=lH (fun W' hb=>by
                have:=qE rb B9 own9 _ ids q (by rw[HM.out];exact oy) W' (mO.below hb) (by simp only;omega) Cf.out.1 Cc.out;simp only at this;rw[Cf.out.2] at this;exact this)
               have eJ:Hid (∀w,Below w9.heap.size w9 w->(w.cell? ⟨g,j*7+4,none⟩=some (I 2)/\w.cell? ⟨g,j*7+6,none⟩=some (I tl))/\∀i,w.frozen? ⟨g,i,none⟩=false):=lH (fun w hb=>by
                have O8:=mO.below hb;obtain⟨g3,n3,c3,Dk,-,-,-,z0,z1,z2,z3,z4,z5,z6⟩:=O8.row_ (k:=j) (t:=⟨tid,tw,tg,i1,2,tm,tl⟩) HJ.out;rw[tQ] at Dk;simp only[Value.slice.injEq,Option.some.injEq,Addr.mk.injEq,and_true,true_and] at Dk;obtain⟨rfl,-⟩:=Dk;exact⟨⟨z4,z6⟩,fun i=>O8.freeT tQ i⟩)
               have au:Hid (∀w,Below w9.heap.size w9 w->RQ rb own (S (q+1)) W ((w.setCell ⟨g,j*7+6,none⟩ (I lag9)).setCell ⟨g,j*7+4,none⟩ (I 5))):=lH (fun w hb=>by
                have h1:=(mO.below hb).taskCell tQ (k:=j) (f:=6) (t:=⟨tid,tw,tg,i1,2,tm,tl⟩) (t':=⟨tid,tw,tg,i1,2,tm,lag9⟩) (u:=I lag9) HJ.out (by omega) rfl;have h2:=h1.taskCell tQ (k:=j) (f:=4) (t:=⟨tid,tw,tg,i1,2,tm,lag9⟩) (t':=⟨tid,tw,tg,i1,5,tm,lag9⟩) (u:=I 5) (uc HJ.out) (by omega) rfl;simp only[List.set_set] at h2;have eP:Touch (fun k=>k=g) w ((w.setCell ⟨g,j*7+6,none⟩ (I lag9)).setCell ⟨g,j*7+4,none⟩ (I 5)):=((Touch.refl (fun k=>k=g) w).setCell (t:=none) (c:=g) (i:=j*7+6) (.inl rfl) _).setCell (t:=none) (c:=g) (i:=j*7+4) (.inl rfl) _;exact⟨_,_,_,h2,mf.out,(sH.trans (RStep.below (own:=own9) hb)).trans (RStep.keep (own:=own9) eP (fun k hk=>by rw[hk];exact Fv))⟩)
               have Su:w9.drew.cell? ⟨rb,1,none⟩=some (.slice (some ⟨g,0,none⟩) m c):=sZ.out _ (Below.refl _ w9).drew;clear mO sH nw tQ Fv Fj I9 Iv rh iE nK eo lr mn c0 Gv e0 e3;go_upto_region 33 with fail
               refine zK (S:=fun W2=>W2.cell? ⟨rb,1,none⟩=some (.slice (some ⟨g,0,none⟩) m c)) (T:=[20]) (by kernel_rfl) ?_;refine wUU 0 (v:=?_) rfl ?_ ?_;rotate_left
               · intro w iq;go_simp;(first | done | with_reducible rfl)
               refine wUU 1 (v:=?_) rfl ?_ ?_;rotate_left
               · intro w iq;go_simp;(first | done | with_reducible rfl)
               refine wUU 2 (v:=?_) rfl ?_ ?_;rotate_left
               · intro w iq;go_simp;(first | done | with_reducible rfl)
               refine wUU 3 (v:=?_) rfl ?_ ?_;rotate_left
               · intro w iq;go_simp;(first | done | with_reducible rfl)
               refine wUU 4 (v:=?_) rfl ?_ ?_;rotate_left
               · intro w iq;go_simp;(first | done | with_reducible rfl)
               refine wUU 5 (v:=?_) rfl ?_ ?_;rotate_left
               · intro w iq;go_simp;(first | done | with_reducible rfl)
               refine wUU 7 (v:=?_) rfl ?_ ?_;rotate_left
               · intro w iq;go_simp;(first | done | with_reducible rfl)
               refine wUU 8 (v:=?_) rfl ?_ ?_;rotate_left
               · intro w iq;go_simp;(first | done | with_reducible rfl)
               refine wUU 9 (v:=?_) rfl ?_ ?_;rotate_left
               · intro w iq;go_simp;(first | done | with_reducible rfl)
               refine wUU 10 (v:=?_) rfl ?_ ?_;rotate_left
               · intro w iq;go_simp;(first | done | with_reducible rfl)
               refine wUU 11 (v:=?_) rfl ?_ ?_;rotate_left
               · intro w iq;go_simp;(first | done | with_reducible rfl)
               refine wUU 12 (v:=?_) rfl ?_ ?_;rotate_left
               · intro w iq;go_simp;(first | done | with_reducible rfl)
               refine wUU 14 (v:=?_) rfl ?_ ?_;rotate_left
               · intro w iq;go_simp;(first | done | with_reducible rfl)
               simp only[Act.put,aP,List.set];refine ze (i:=6) (by kernel_rfl) rfl (by kernel_rfl) ?_;intro K hK;go_simp
               go_at_call 81
               refine(GP.out _ (Below.refl _ _).drew).mono ?_;rintro e w5 ⟨rfl,mY⟩;have sS:=sZ.out w5 ((Below.refl _ _).drew.trans mY);refine hK _ _ sS ?_;clear hK;refine ze (i:=13) (by kernel_rfl) rfl (by kernel_rfl) ?_;intro K hK;go_simp
               go_at_call 81
               refine(GP.out _ ((Below.refl _ _).drew.trans mY)).mono ?_;rintro e w6 ⟨rfl,CQ⟩;have DB:=((Below.refl _ w9).drew.trans mY).trans (CQ.mono mY.size)
               have AX:=sZ.out w6 DB;refine hK _ _ AX ?_;clear hK;refine wUU 15 (v:=?_) rfl ?_ ?_;rotate_left
               · intro w iq;go_simp;(first | done | with_reducible rfl)
               refine wUU 16 (v:=?_) rfl ?_ ?_;rotate_left
               · intro w iq;go_simp;(first | done | with_reducible rfl)
               simp only[Act.put,aP,List.set];refine ze (i:=17) (by kernel_rfl) rfl (by kernel_rfl) ?_;intro K hK;obtain⟨⟨r4,r6⟩,rf⟩:=eJ.out w6 DB;have f6:=rf (j*7+6);have f4:=rf (j*7+4);clear rf;go_simp
               have r8:=A4.out w6 DB;refine hK _ _ r8 ?_;clear hK;refine ze (i:=18) (by kernel_rfl) rfl (by kernel_rfl) ?_;intro K hK;go_simp
               refine hK _ _ r8 ?_;clear hK;refine wUU 19 (v:=?_) rfl ?_ ?_;rotate_left
               · intro w iq;go_simp;(first | done | with_reducible rfl)
               simp only[Act.put,aP,List.set];refine zk (i:=20) (by kernel_rfl) rfl (by kernel_rfl) ?_;intro K hK;go_simp
               refine hK _ _ ?_;clear hK;refine zy (by kernel_rfl) ?_ _;go_wp2_with fail
               (first | go_roundw | (refine⟨?_,?measure⟩;(repeat apply Exists.intro);refine⟨?rel,rfl⟩))
               case rel=>exact⟨q+1,oy,by go_num,lH (au.out w6 DB)⟩
               case measure=>simp[intOf];omega
             · have rp:ys.any (yR r')=false:=(Bool.not_eq_true _).mp hh;have mf:Hid (Rel (S (q+1)) r'):=lH (by
                rcases HC.out with⟨-,h⟩ | ⟨-,h,-⟩
                · exact h
                · exact absurd h hh)
               rw[rp] at il;clear hh rp;go_wp2_with fail
               refine il.mono ?_;rintro e w2 ⟨rfl,ar⟩;have au:Hid (RQ rb own (S (q+1)) W w2):=lH (by
                have hb:=ew.out.trans (ar.mono ew.out.size)
                exact⟨B',own',r',HA'.out.below hb,mf.out,HS'.out.trans (RStep.below hb)⟩)
               clear ar il x0 x1 x2 x3 x4 x5 x6;go_wp2_with fail
               (first | go_roundw | (refine⟨?_,?measure⟩;(repeat apply Exists.intro);refine⟨?rel,rfl⟩))
               case rel=>exact⟨q+1,oy,by go_num,au⟩
               case measure=>simp[intOf];omega
           · have mf:Hid (Rel (S (q+1)) r'):=lH (by
              rcases HC.out with⟨-,h⟩ | ⟨h,-⟩
              · exact h
              · exact absurd h h2)
             have au:Hid (RQ rb own (S (q+1)) W wc):=lH
              ⟨B',own',r',HA'.out.below ew.out,mf.out,HS'.out.trans (RStep.below ew.out)⟩
             clear il;go_wp2_with fail
             (first | go_roundw | (refine⟨?_,?measure⟩;(repeat apply Exists.intro);refine⟨?rel,rfl⟩))
             case rel=>exact⟨q+1,oy,by go_num,au⟩
             case measure=>simp[intOf];omega
         · obtain rfl:q=m:=by omega
           have hl:=mL.out r' AW;obtain⟨ta,tc,sj,-⟩:=eS.tasks;have c1:=eS.c1;rw[sj,hl] at c1;clear eS AW aG sj;go_wp2_with fail
           go_ret2
           exact⟨rfl,HQq.out⟩
end
end Go.Proofs.YtoiajjobecinpaaGreat
