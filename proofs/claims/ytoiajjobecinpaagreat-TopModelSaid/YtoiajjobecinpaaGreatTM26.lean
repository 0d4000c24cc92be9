/- Run: one tick of a core, whatever is there. swap.Try where there is none; Step. Abort. A blow befall -/
import Derived.Test.YtoiajjobecinpaaGreatTM23
set_option maxHeartbeats 4000000
set_option maxRecDepth 100000
namespace Go.Proofs.YtoiajjobecinpaaGreat
open Go.RowKit Go.Shelf Go.Lib Go.Proofs
set_option linter.unusedVariables false
set_option linter.unusedSimpArgs false
section
attribute [local go_sem] Oper.semAt_some
theorem Qo (sb gb nb pb mb n:Nat) (cv:Value) (D:DataW Unit) (cbs:List Nat) (tb:Int->Nat) (own:Nat->Option Own) (s:Sy) (i:Nat) (id:Int) (c':Co) (t:Tk) (xs:List G16) (w:World)
 (h:SysAt w sb gb nb pb mb n cv D cbs tb own s) (hi:i<cbs.length) (ov:yn s.cores[i]!.l) (iX:Ids s.cores[i]!.l) (AM:s.cores[i]!.srv<1000000000) (lJ:yE s.cores[i]! = (id,0,c')) (hid:0<=id/\id<=9223372036854775807) (ht:s.tasks id=some t)
 (hL:zq s.gs t.group xs) (pR:xO s.acc) (hz:xj s.ps) (hd:gn s)
 (hs:∀ids:List Int,ids.Perm (zf s.ps)->jt (zU (zN s i c') (xs.foldl xp s.acc)) ids) :
 Calls Tryz.prog 55 #[.pointer (some ⟨sb,0,none⟩),I i] w fun e w'=>e=.returned (.tuple #[I id,I 0])/\∃ids:List Int,ids.Perm (zf s.ps)/\ids.Pairwise (fun a b=>¬b<a)/\YP sb gb nb pb mb n cv D cbs tb own (ids.foldl yI (zU (zN s i c') (xs.foldl xp s.acc))) w w':=by
 have h1:1<=5:=by omega
 have le:=h.lt sb (by rw[h.osb];simp);have en:Below w.heap.size w (w.alloc (.cells #[.pointer (some ⟨sb,0,none⟩)] 81)):=(Below.refl _ w).alloc (Nat.le_refl _) _;have lr:=h.below en;have eT:=jX sb gb nb pb mb n cv D cbs tb own s i _ lr hi;have rH:=bz cbs[i]! _ s.cores[i]! _ (lr.core i hi) ov iX AM;rw[lJ] at rH;have q0:=zv w (.pointer (some ⟨sb,0,none⟩)) 81;have HS:=lH h;have AR:=lH lr;have HI:=lH hi;have HT:=lH ht;have HL:=lH hL;have HA:=lH pR;have HZ:=lH hz;have HD:=lH hd;have HH:=lH hs;obtain⟨cb,mu⟩:∃cb,cbs[i]! = cb:=⟨_,rfl⟩
 rw[mu] at eT rH;have rB:=lH mu;clear h lr hi ov iX AM lJ ht hL pR hz hd hs mu;refine callsIn_wide.1 (callsIn_of_wp_marks (n:=5) Tryz.func55 rfl trivial (wpIn_wide.2 ?_) rfl);simp only[Tryz.ntmps55,List.size_toArray,List.length_cons,List.length_nil,Nat.reduceAdd,Nat.reduceSub,Array.replicate_succ,Array.replicate_zero,List.push_toArray,List.append_toArray,List.nil_append,List.cons_append];go_wp2_with fail
 refine eT.mono ?_;rintro e w0 ⟨rfl,rfl⟩;go_wp2_with fail
 refine rH.mono ?_;rintro e w1 ⟨rfl,F',c1,c2,c3⟩;simp only at c1;obtain⟨own',eu,Eb⟩:=AR.out.setCore (i:=i) HI.out (by rw[rB.out];exact c1) c2 c3;have oL:w1.cell? ⟨w.heap.size,0,none⟩=some (.pointer (some ⟨sb,0,none⟩)):=(World.cell?_of_block (a:=⟨w.heap.size,0,none⟩) (c2.block w.heap.size (by simp) (fun e=>by have:=HS.out.lt w.heap.size (by rw[e];simp);omega))).trans q0.1;have aF:=(eu.task id t HT.out)
 have my:=eu.look id (by omega) hid.2;rw[show(⟨s.cores.set i c',s.gs,s.acc,s.ps,s.tasks,s.cnt⟩:Sy).tasks id=some t from HT.out] at my;simp only at my;have Gn:=eu.c67;have mQ:=eu.c1;obtain⟨b,hb⟩:∃b,tb id=b:=⟨_,rfl⟩
 rw[hb] at my aF;have nJ:=aF.1.group;have F6:=c2.size;have Bl:SysAt w1 sb gb nb pb mb n cv D cbs tb own' (zN s i c'):=eu;have iL:=lH Bl;have CA:=lH Eb;have nv:=lH c2;clear eT rH eu Bl Eb aF c1 c2 c3 q0 hb;go_wp2_with fail
 go_region_held3 (fun W2=>W2.cell? ⟨w.heap.size,0,none⟩=some (.pointer (some ⟨sb,0,none⟩))/\W2.cell? ⟨sb,1,none⟩=some (.pointer (some ⟨gb,0,none⟩))/\W2.cell? ⟨b,2,none⟩=some (I t.group)) (first | exact⟨oL,mQ,nJ⟩ | exact⟨c2a _ (c2a _ oL),c2a _ (c2a _ mQ),c2a _ (c2a _ nJ)⟩) (first | (go_at_call 112;refine(jj gb t.group _).mono ?_;rintro e w9 ⟨rfl,rfl⟩) | fail)
 have kg:=c2a (.cells #[I t.group] 3) (zv w1 (.pointer (some ⟨gb,0,none⟩)) 113).1;have ki:=(zv (w1.alloc (.cells #[.pointer (some ⟨gb,0,none⟩)] 113)) (I t.group) 3).1;rw[World.size_alloc] at ki;have kb:=c2a (.cells #[I t.group] 3) (c2a (.cells #[.pointer (some ⟨gb,0,none⟩)] 113) oL);have ib:Below w1.heap.size w1 ((w1.alloc (.cells #[.pointer (some ⟨gb,0,none⟩)] 113)).alloc (.cells #[I t.group] 3)).drew:=(((Below.refl _ _).alloc (Nat.le_refl _) _).alloc (by simp) _).drew;have et:((w1.alloc (.cells #[.pointer (some ⟨gb,0,none⟩)] 113)).alloc (.cells #[I t.group] 3)).drew.heap.size=w1.heap.size+1+1:=by show((w1.alloc _).alloc _).heap.size=_;simp
 change World.cell? ((w1.alloc (.cells #[.pointer (some ⟨gb,0,none⟩)] 113)).alloc (.cells #[I t.group] 3)).drew _=_ at kg ki kb;generalize((w1.alloc (.cells #[.pointer (some ⟨gb,0,none⟩)] 113)).alloc (.cells #[I t.group] 3)).drew=W2 at kg ki kb ib et⊢;have iA:=iL.out.below ib;have p9:w.heap.size<w1.heap.size:=World.block_lt_of_cell? _ _ oL;have eL:=iL.out.groups.lt;have Ti:=iL.out.lt sb (by rw[iL.out.osb];simp);have PV:sb≠gb:=fun e=>by have a:=iL.out.osb;rw[e,iL.out.ogb] at a;cases a
 have iy:=lH iA;clear iA oL mQ nJ my Gn;go_wp2_with fail
 refine(wpIn_wide (n:=5)).1 (wpIn_rangeFunc_ownF rfl h1 (gf:=155) (lb:=#[.pointer (some ⟨w1.heap.size+1,0,none⟩),.pointer (some ⟨w1.heap.size,0,none⟩)]) rfl trivial (enters_of Tryz.func155 (by kernel_rfl) rfl)
  (uE (5-1) (by omega) (w1.heap.size+1) w1.heap.size gb s.gs t.group xs W2 (by omega) (by omega) (by omega) ki kg iy.out.groups HL.out) KpG.t (KpG.b (by omega) (by omega)) (Below.refl _ _) (fun _=>rfl)
  (fun pre W=>(W2.heap.size<=W.heap.size/\W.cell? ⟨w.heap.size,0,none⟩=some (.pointer (some ⟨sb,0,none⟩)))/\xO (pre.foldl xp s.acc)/\SysAt W sb gb nb pb mb n cv D cbs tb own' (zU (zN s i c') (pre.foldl xp s.acc))/\Touch (fun k=>k=sb) W2 W)
  (fun _ _ _=>False)
  (OwnFrom.and (Own.from (fun s A B row hs hg hr=>⟨Nat.le_trans hs.1 hg.size,cell_kept hs.2 hg hr⟩) _) (fun pre A B row hs hg hr=>⟨hs.1,hs.2.1.own_steps (fun k hk=>by have:=iL.out.lt k hk;omega) hg (fun r p7=>(hr r p7).1),jU hs.2.2 hg (fun r p7=>(hr r p7).1)⟩))
  (fun _ _ _ _ _ hs _ _=>hs)
  ⟨⟨Nat.le_refl _,kb⟩,HA.out,iy.out,Touch.refl _ _⟩
  (fun x=>{tmps:=#[Value.pointer (some ⟨sb,0,none⟩),I i,.pointer (some ⟨w.heap.size,0,none⟩),undef,I 0,I 0,.pointer (some ⟨cb,0,none⟩),I 0,I id,.pointer (some ⟨b,0,none⟩),I x.1,undef,undef,.tuple #[.pointer (some ⟨cb,0,none⟩),I 0],.pointer (some ⟨sb,0,none⟩),I i,.tuple #[.pointer (some ⟨cb,0,none⟩),I 0],.pointer (some ⟨cb,0,none⟩),I 0,I 0,.bool false,undef,.tuple #[I id,I 0],.pointer (some ⟨cb,0,none⟩),.tuple #[I id,I 0],I id,I 0,.pointer (some ⟨sb,0,none⟩),.pointer (some ⟨sb,0,none⟩),.pointer (some ⟨sb,67,none⟩),.map (some mb),I id,.pointer (some ⟨b,0,none⟩),I 0,.bool false,.bool false,.pointer (some ⟨b,0,none⟩),.bool false,.bool false,undef,undef,.pointer (some ⟨sb,0,none⟩),.pointer (some ⟨sb,0,none⟩),.pointer (some ⟨sb,1,none⟩),.pointer (some ⟨gb,0,none⟩),.pointer (some ⟨b,0,none⟩),.pointer (some ⟨b,0,none⟩),.pointer (some ⟨b,2,none⟩),I t.group,.func (.func 155) #[] #[.pointer (some ⟨w1.heap.size+1,0,none⟩),.pointer (some ⟨w1.heap.size,0,none⟩)],I x.1,undef,undef,undef,undef,undef,undef,undef,undef,undef,undef,undef,undef,undef,undef,undef,undef,undef,undef,undef,undef,undef],defers:=[]}) ?assign ?body ?done ?stop)
 case assign=>
  intro l x W K hK;gi_wp2
  simpa using hK
 case body=>
  rintro l pre ⟨x,ek,ia⟩ W ⟨⟨F0,aX⟩,lQ,tt,JR⟩ sE;have e1:1<=5-1-1:=by omega
  have hmx:Tryz.prog.follows .mixedOrders=true:=by kernel_rfl
  obtain⟨k,rfl⟩:=Int.eq_ofNat_of_zero_le ek;have ox:k<16:=by omega
  have PE:(k:Int)<16:=ia;obtain⟨a0,a1,a2,a3⟩:=tt.acc k ox;simp only[zU] at a0 a1 a2 a3;have eY:(pre++[(⟨(k:Int),ek,ia⟩:G16)]).foldl xp s.acc=xp (pre.foldl xp s.acc) ⟨(k:Int),ek,ia⟩:=by rw[List.foldl_append];rfl
  have FK:=lQ.use ⟨(k:Int),ek,ia⟩;obtain⟨ac,nM⟩:∃ac,pre.foldl xp s.acc=ac:=⟨_,rfl⟩
  rw[nM] at a0 a1 a2 a3 eY FK lQ tt;have i8:=lQ.2 k ox;have H7:=lQ.1;have ak:xp ac ⟨(k:Int),ek,ia⟩=if (xu (ac.getD k default).1 (ac.getD k default).2.1 (ac.getD k default).2.2.1 (ac.getD k default).2.2.2).2=0 then ac.set k (xu (ac.getD k default).1 (ac.getD k default).2.1 (ac.getD k default).2.2.1 (ac.getD k default).2.2.2).1 else ac:=by unfold xp;simp
  generalize(ac.getD k default).1=q0 at a0 i8 ak;generalize(ac.getD k default).2.1=q1 at a1 i8 ak;generalize(ac.getD k default).2.2.1=q2 at a2 i8 ak;generalize(ac.getD k default).2.2.2=q3 at a3 i8 ak;have rV:=fun W'=>VT q0 q1 q2 q3 W' (VQ i8).1 (VQ i8).2;obtain⟨⟨⟨u0,u1,u2,u3⟩,ue⟩,hu⟩:∃r,xu q0 q1 q2 q3=r:=⟨_,rfl⟩
  rw[hu] at rV ak;simp only at rV ak;have PU:zU (zU (zN s i c') ac) (ac.set k (u0,u1,u2,u3))=zU (zN s i c') (ac.set k (u0,u1,u2,u3)):=rfl;have lL:=lH ak;have Am:=lH eY;have Dt:=lH FK;have Hb:=lH tt;have EU:=lH JR;clear i8 hu nM lQ ak eY FK tt JR kg ki;by_cases Dj:ue=0
  · subst Dj;gi_wp2_with (refine⟨trivial,?_⟩;gi_at_call 113;refine(CallsIn.inRound l (callsIn_wide.2 (rV _))).mono ?_;rintro e w' ⟨rfl,hb⟩;have tF:=(hb.cell (p:=⟨w.heap.size,0,none⟩) (by show w.heap.size<W.heap.size;omega)).trans aX)
    rw[if_pos trivial] at lL;have n0:(w'.alloc (.cells #[I u0,I u1,I u2,I u3] 119)).heap[w'.heap.size]? = some (.cells #[I u0,I u1,I u2,I u3] 119):=heap_alloc_new w' _;have oE:Below W.heap.size W (w'.alloc (.cells #[I u0,I u1,I u2,I u3] 119)):=hb.alloc hb.size _;have k4:=c2a (.cells #[I u0,I u1,I u2,I u3] 119) tF;obtain⟨m0,m1,m2,m3⟩:=zi n0;generalize w'.alloc (.cells #[I u0,I u1,I u2,I u3] 119)=W4 at oE k4 m0 m1 m2 m3⊢;have sR:=Hb.out.below oE;obtain⟨b0,b1,b2,b3⟩:=sR.acc k ox;have l0:=sR.live (2+k*4);have l1:=sR.live (2+k*4+1);have l2:=sR.live (2+k*4+2);have l3:=sR.live (2+k*4+3);have EK:=lH sR;clear n0 sR;refine js (S:=Ju w.heap.size sb w'.heap.size u0 u1 u2 u3) (T:=[6]) hmx (by kernel_rfl) (fun _ _ h=>h) ?_;have LC:Ju w.heap.size sb w'.heap.size u0 u1 u2 u3 W4.drew:=⟨k4,m0,m1,m2,m3⟩
    refine zS (i:=0) (v:=?_) rfl (by kernel_rfl) (by kernel_rfl) (by kernel_rfl) (by kernel_rfl) (fun _ _ _ h=>h) (Or.inl ⟨by rfl,?_⟩) (by assumption) ?_;rotate_left
    · intro w5 iq;obtain⟨s1,s2,s3,s4,s5⟩:=iq;go_simp;(first | done | with_reducible rfl)
    simp only[Act.put,List.setIfInBounds_toArray,List.set_cons_zero,List.set_cons_succ];refine zS (i:=1) (v:=?_) rfl (by kernel_rfl) (by kernel_rfl) (by kernel_rfl) (by kernel_rfl) (fun _ _ _ h=>h) (Or.inl ⟨by rfl,?_⟩) (by assumption) ?_;rotate_left
    · intro w5 iq;obtain⟨s1,s2,s3,s4,s5⟩:=iq;go_simp;(first | done | with_reducible rfl)
    simp only[Act.put,List.setIfInBounds_toArray,List.set_cons_zero,List.set_cons_succ];refine zS (i:=2) (v:=?_) rfl (by kernel_rfl) (by kernel_rfl) (by kernel_rfl) (by kernel_rfl) (fun _ _ _ h=>h) (Or.inl ⟨by rfl,?_⟩) (by assumption) ?_;rotate_left
    · intro w5 iq;obtain⟨s1,s2,s3,s4,s5⟩:=iq;go_simp;(first | done | with_reducible rfl)
    simp only[Act.put,List.setIfInBounds_toArray,List.set_cons_zero,List.set_cons_succ];refine ze (i:=3) (by kernel_rfl) rfl (by kernel_rfl) ?_;intro K13 hK;go_simp
    refine hK _ _ LC ?_;clear hK;refine ze (i:=4) (by kernel_rfl) rfl (by kernel_rfl) ?_;intro K14 hK;go_simp
    refine hK _ _ LC ?_;clear hK;refine ze (i:=5) (by kernel_rfl) rfl (by kernel_rfl) ?_;intro K15 hK;go_simp
    refine hK _ _ LC ?_;clear hK;refine zk (i:=6) (by kernel_rfl) rfl (by kernel_rfl) ?_;intro K3 hK;go_simp
    refine hK _ _ ?_;clear hK LC;refine zy (by kernel_rfl) ?_ _;have sS:=EK.out.setA k ox (by exact H7) u0 u1 u2 u3;have AX:=sS.drew1;have lu:W2.heap.size<=W.heap.size:=F0;have Rb:=oE.size;have Tl:=PV;have lS:∀j,j<W.heap.size->j≠sb->((((W4.setCell ⟨sb,2+k*4,none⟩ (I u0)).setCell ⟨sb,2+k*4+1,none⟩ (I u1)).setCell ⟨sb,2+k*4+2,none⟩ (I u2)).setCell ⟨sb,2+k*4+3,none⟩ (I u3)).drew.heap[j]? = W.heap[j]?:=fun j hj ay=>by
     show((((W4.setCell ⟨sb,2+k*4,none⟩ (I u0)).setCell ⟨sb,2+k*4+1,none⟩ (I u1)).setCell ⟨sb,2+k*4+2,none⟩ (I u2)).setCell ⟨sb,2+k*4+3,none⟩ (I u3)).heap[j]? = _;rw[Below.heap_setCell _ _ _ _ (by simpa using ay),Below.heap_setCell _ _ _ _ (by simpa using ay),Below.heap_setCell _ _ _ _ (by simpa using ay),Below.heap_setCell _ _ _ _ (by simpa using ay)];exact oE.block j hj
    refine⟨((yS oE).trans ((((KeepsOthers.setCell _ _ _).trans (KeepsOthers.setCell _ _ _)).trans (KeepsOthers.setCell _ _ _)).trans (KeepsOthers.setCell _ _ _))).trans (KeepsOthers.drew _),⟨lS gb (by omega) PV.symm,lS w1.heap.size (by omega) (by omega)⟩,⟨?_,(World.cell?_of_block (a:=⟨w.heap.size,0,none⟩) (lS w.heap.size (by omega) (by omega))).trans aX⟩,?_,?_,?_⟩
    · show W2.heap.size<=((((W4.setCell ⟨sb,2+k*4,none⟩ (I u0)).setCell ⟨sb,2+k*4+1,none⟩ (I u1)).setCell ⟨sb,2+k*4+2,none⟩ (I u2)).setCell ⟨sb,2+k*4+3,none⟩ (I u3)).heap.size;simp;omega
    · rw[Am.out];exact Dt.out
    · rw[Am.out,lL.out];exact AX
    · refine EU.out.self (Touch.drew ?_);refine Touch.self (Touch.of_below oE) ?_;exact(((zG _ _ _ _).self (zG _ _ _ _)).self (zG _ _ _ _)).self (zG _ _ _ _)
  · rw[if_neg Dj] at lL;have Tp:(ue==0)=false:=by simpa using Dj
    gi_wp2_with (refine⟨trivial,?_⟩;gi_at_call 113;refine(CallsIn.inRound l (callsIn_wide.2 (rV _))).mono ?_;rintro e w' ⟨rfl,hb⟩;have tF:=(hb.cell (p:=⟨w.heap.size,0,none⟩) (by show w.heap.size<W.heap.size;omega)).trans aX)
    have oE:Below W.heap.size W (w'.alloc (.cells #[I u0,I u1,I u2,I u3] 119)):=hb.alloc hb.size _;refine⟨yS oE,ut oE (by omega) (by omega),⟨Nat.le_trans F0 oE.size,c2a _ tF⟩,?_,?_,EU.out.self (Touch.of_below oE)⟩
    · rw[Am.out];exact Dt.out
    · rw[Am.out,lL.out];exact Hb.out.below oE
 case done=>
  rintro D' ys W hD rfl ⟨⟨F0,aX⟩,lQ,tt,JR⟩ hK;have DU:=Uz sb gb nb pb mb n cv D cbs tb own' _ W tt HZ.out HD.out HH.out;have Hb:=lH tt;have EU:=lH JR;clear tt JR lQ kg ki;go_wp2_with fail
  refine DU.mono ?_;rintro e w2 ⟨rfl,ids,eD,oK,O9,M4⟩;have Sp:own' D'=none:=by
   cases e:own' D' with
   | none=>rfl
   | some o=>have:=iy.out.lt D' (by rw[e];simp);omega
  have St:w2.heap[D']? = some (.deferred (some [])):=(M4.block D' (yW hK) (by simp[Sp])).trans hK;have Cf:=lH eD;have CC:=lH oK;have RW:=lH O9;have R0:=lH M4;clear DU eD oK O9 M4;go_wp2_with fail
  refine⟨by simp,.inl ⟨_,_,rfl,run_takeDeferred St,?_⟩⟩;have Sw:=RW.out.own_steps (fun k hk=>iy.out.lt k hk) (grownBy_putObj' w2 D' (.deferred none)) (fun r e=>by cases e;exact hD);refine⟨.tuple #[I id,I 0],by simp[results,Tryz.f55,go_sem],rfl,ids,Cf.out,CC.out.imp (fun h=>by omega),own',Sw,fun k hk=>CA.out k (by have:=en.size;omega),?_⟩;have t1:Touch (fun k=>own k≠none) w w1:=(Touch.of_below en).self (nv.out.wider (fun k hk=>by rw[hk];simp));have t2:Touch (fun k=>own k≠none) w W2:=t1.self (Touch.of_below ib);have t3:Touch (fun k=>own k≠none) w W:=t2.trans (uk.refl _ _) (EU.out.wider (fun k hk=>by rw[hk,HS.out.osb];simp))
  have t4:Touch (fun k=>own k≠none) w w2:=t3.trans (fun k hk=>by
   by_cases hl:k<w.heap.size
   · left;show own k≠none;rw[<- CA.out k (by have:=en.size;omega)];exact hk
   · right;omega) R0.out
  exact jU t4 (grownBy_putObj' w2 D' (.deferred none)) (fun r e=>by cases e;exact Nat.le_trans t2.size hD)
 case stop=>
  rintro D' c pre W _ _ h _;exact h.elim
theorem VA (sb gb nb pb mb n:Nat) (cv:Value) (D:DataW Unit) (cbs:List Nat) (tb:Int->Nat) (own:Nat->Option Own) (s:Sy) (z:Int) (W:World) (h:SysAt W sb gb nb pb mb n cv D cbs tb own s) (hi:z<0\/(cbs.length:Int)<=z) :
 Calls Tryz.prog 87 #[.pointer (some ⟨sb,0,none⟩),I z] W fun e w'=>e=.returned (.tuple #[.pointer none,I 2])/\W=w':=by
 obtain⟨N,hN⟩:∃N,cbs.length=N:=⟨_,rfl⟩
 obtain⟨a,c,aQ⟩:∃a c,cv=.slice a N c:=by
  rcases h.row.2 with⟨e,h0⟩ | ⟨g,cap,cur,e,_⟩
  · exact⟨none,0,by rw[e,show N=0 by omega]⟩
  · exact⟨_,cap,by rw[e,hN]⟩
 have c0:=h.head;rw[aQ] at c0;rw[hN] at hi;clear h hN aQ;by_cases hz:z<0
 · clear hi;go_enter Tryz.func87,Tryz.ntmps87;go_wp2_with fail
   go_ret2
   exact⟨rfl,rfl⟩
 · have h2:(N:Int)<=z:=by omega
   clear hi;go_enter Tryz.func87,Tryz.ntmps87;go_wp2_with fail
   go_ret2
   exact⟨rfl,rfl⟩
theorem YR (sb gb nb pb mb n:Nat) (cv:Value) (D:DataW Unit) (cbs:List Nat) (tb:Int->Nat) (own:Nat->Option Own) (s:Sy) (z:Int) (w:World) (h:SysAt w sb gb nb pb mb n cv D cbs tb own s) (hi:z<0\/(cbs.length:Int)<=z) :
 Calls Tryz.prog 55 #[.pointer (some ⟨sb,0,none⟩),I z] w fun e w'=>e=.returned (.tuple #[I 0,I 2])/\YP sb gb nb pb mb n cv D cbs tb own s w w':=by
 have en:Below w.heap.size w (w.alloc (.cells #[.pointer (some ⟨sb,0,none⟩)] 81)):=(Below.refl _ w).alloc (Nat.le_refl _) _;have eT:=VA sb gb nb pb mb n cv D cbs tb own s z _ (h.below en) hi;have HS:=lH h;have HB:=lH en;have q0:=zv w (.pointer (some ⟨sb,0,none⟩)) 81;clear h en hi;refine callsIn_wide.1 (callsIn_of_wp_marks (n:=5) Tryz.func55 rfl trivial (wpIn_wide.2 ?_) rfl);simp only[Tryz.ntmps55,List.size_toArray,List.length_cons,List.length_nil,Nat.reduceAdd,Nat.reduceSub,Array.replicate_succ,Array.replicate_zero,List.push_toArray,List.append_toArray,List.nil_append,List.cons_append];go_wp2_with fail
 refine eT.mono ?_;rintro e w0 ⟨rfl,rfl⟩;go_wp2_with fail
 refine⟨.tuple #[I 0,I 2],by simp[results,Tryz.f55,go_sem],rfl,own,HS.out.below HB.out,fun _ _=>rfl,Touch.of_below HB.out⟩
theorem Qn (sb gb nb pb mb n:Nat) (cv:Value) (D:DataW Unit) (cbs:List Nat) (tb:Int->Nat) (own:Nat->Option Own) (s:Sy) (i:Nat) (c':Co) (w:World)
 (h:SysAt w sb gb nb pb mb n cv D cbs tb own s) (hi:i<cbs.length) (ov:yn s.cores[i]!.l) (iX:Ids s.cores[i]!.l) (AM:s.cores[i]!.srv<1000000000) (lJ:yE s.cores[i]! = (-1,0,c')) (ht:s.tasks (-1)=none) :
 Calls Tryz.prog 55 #[.pointer (some ⟨sb,0,none⟩),I i] w fun e w'=>e=.returned (.tuple #[I (-1),I 0])/\YP sb gb nb pb mb n cv D cbs tb own (zN s i c') w w':=by
 have le:=h.lt sb (by rw[h.osb];simp);have en:Below w.heap.size w (w.alloc (.cells #[.pointer (some ⟨sb,0,none⟩)] 81)):=(Below.refl _ w).alloc (Nat.le_refl _) _;have lr:=h.below en;have eT:=jX sb gb nb pb mb n cv D cbs tb own s i _ lr hi;have rH:=bz cbs[i]! _ s.cores[i]! _ (lr.core i hi) ov iX AM;rw[lJ] at rH;have q0:=zv w (.pointer (some ⟨sb,0,none⟩)) 81;have HS:=lH h;have AR:=lH lr;have HI:=lH hi;have HT:=lH ht;obtain⟨cb,mu⟩:∃cb,cbs[i]! = cb:=⟨_,rfl⟩
 rw[mu] at eT rH;have rB:=lH mu;clear h lr hi ov iX AM lJ ht mu;refine callsIn_wide.1 (callsIn_of_wp_marks (n:=5) Tryz.func55 rfl trivial (wpIn_wide.2 ?_) rfl);simp only[Tryz.ntmps55,List.size_toArray,List.length_cons,List.length_nil,Nat.reduceAdd,Nat.reduceSub,Array.replicate_succ,Array.replicate_zero,List.push_toArray,List.append_toArray,List.nil_append,List.cons_append];go_wp2_with fail
 refine eT.mono ?_;rintro e w0 ⟨rfl,rfl⟩;go_wp2_with fail
 refine rH.mono ?_;rintro e w1 ⟨rfl,F',c1,c2,c3⟩;simp only at c1;obtain⟨own',eu,Eb⟩:=AR.out.setCore (i:=i) HI.out (by rw[rB.out];exact c1) c2 c3;have oL:w1.cell? ⟨w.heap.size,0,none⟩=some (.pointer (some ⟨sb,0,none⟩)):=(World.cell?_of_block (a:=⟨w.heap.size,0,none⟩) (c2.block w.heap.size (by simp) (fun e=>by have:=HS.out.lt w.heap.size (by rw[e];simp);omega))).trans q0.1;have my:=eu.look (-1) (by omega) (by omega);rw[show(⟨s.cores.set i c',s.gs,s.acc,s.ps,s.tasks,s.cnt⟩:Sy).tasks (-1)=none from HT.out] at my;simp only at my;have Gn:=eu.c67;have Bl:SysAt w1 sb gb nb pb mb n cv D cbs tb own' (zN s i c'):=eu;have iL:=lH Bl;have CA:=lH Eb;have nv:=lH c2;clear eT rH eu Bl Eb c1 c2 c3 q0;go_wp2_with fail
 refine⟨.tuple #[I (-1),I 0],by simp[results,Tryz.f55,go_sem],rfl,own',iL.out,fun k hk=>CA.out k (by have:=en.size;omega),?_⟩;exact(Touch.of_below en).self (nv.out.wider (fun k hk=>by rw[hk];simp))
def JE (tb cb:Nat) (t:Tr) (X:Nat->Prop) (W:World) (e:Ending) (w':World):Prop:=
 JA e/\∃t',TryIn w' tb cb t' X/\(t'.stg=t.stg\/t'.stg=6)/\(t'.stg≠6->t'.tag=t.tag/\t'.base=t.base)/\Touch X W w'
end
end Go.Proofs.YtoiajjobecinpaaGreat
