/- The document's acts beside the program's: sleep, end, weigh. The document's own system: Bind, where  -/
import Derived.Test.YtoiajjobecinpaaGreatTM37
import Derived.Test.YtoiajjobecinpaaGreatTM38
import Derived.Test.YtoiajjobecinpaaGreatTM40
set_option maxHeartbeats 4000000
set_option maxRecDepth 100000
namespace Go.Proofs.YtoiajjobecinpaaGreat
open Go.RowKit Go.Shelf Go.Lib Go.Proofs
set_option linter.unusedVariables false
set_option linter.unusedSimpArgs false
section
variable {k n:Nat} {b:Int} {s:Sy} {r:RSy} {W:World} {rb:Nat} {B:RBk} {own:Nat->Option ROwn}
theorem uY {l:Ln} {x w:Int} (h:xd l x w):¬yh l.ps x<0:=by
 obtain⟨p,hp,e,-⟩:=h;rcases zB l.ps x with⟨-,hn⟩ | ⟨j,hj,BN,-⟩
 · exact absurd e (hn p hp)
 · omega
theorem Rel.leave (hR:Rel s r) {i:Nat} (hi:i<s.cores.length) (x:Int):Rel (zN s i (zh s.cores[i]! x).2.2) ⟨r.cores.set i (s.cores[i]!.tag,(zA s.cores[i]!.l x).2.2),r.ts,r.gs,r.acc,r.ps⟩:=
 hR.coreSet i (zh s.cores[i]! x).2.2 hi rfl
theorem WM (hA:RAt W rb B own r) (hR:Rel s r) (hI:InvY k b n s) (hk:k<=400) (hb:b<=1000000000000000000) (id:Int) :
 Calls Tryz.prog 32 #[.pointer (some ⟨rb,0,none⟩),I 4,I id] W fun e w'=>e=.returned (I (ui s id).1)/\RQ rb own (ui s id).2 W w':=by
 have aT:=hR.few hI;unfold ui wY;cases hu:s.tasks id with
 | none=>exact(qD rb B own r 4 id W hA (by omega) (hR.gone hu)).mono (fun e w' ⟨he,hw⟩=>⟨he,hw ▸ RQ.of hA hR (Below.refl _ _)⟩)
 | some u=>
  have hT:=hI.task id u hu;obtain⟨j,t,iK,hj,hp,hS⟩:=hR.find hu hT.id;simp only
  by_cases he:(nxt u.state 4).2=0
  · rw[if_pos he];have hs:=(xM u.state).2.1.1 he;have Si:(nxt u.state 4).1=4:=by rw[(xM u.state).1.2 hs]
    rw[Si];by_cases h2:u.state=2
    · obtain⟨i,hi,aN,hh⟩:=hI.at_ hu h2;have iI:i<s.cores.length:=by rw[hI.len];exact aN
      rw[hi,Int.toNat_natCast];obtain⟨n1,n2,n3⟩:=hI.nums hk hb aN;refine(jM rb B own r id j t W hA aT hp hj (by rw[hS.state];exact h2) i s.cores[i]!.tag s.cores[i]!.l (by rw[hS.core];exact hi) (by rw[hS.id];exact hT.id) (by rw[hR.len];exact iI) (hR.core iI).2 n1 (hI.wrapL hk hb aN) (uY hh)).mono ?_;rintro e w' ⟨he,B',own',eS,ak⟩;refine⟨he,B',own',_,eS,?_,ak⟩;have BE:zn s id u i=setTk (zN s i (zh s.cores[i]! u.id).2.2) id (wi u (zh s.cores[i]! u.id).1):=by unfold zn;rw[if_pos h2]
      have ah:leaveT s u i=wi u (zh s.cores[i]! u.id).1:=by unfold leaveT;rw[if_pos h2]
      rw[BE,ah,vk,hT.id];exact(hR.leave iI id).task (x:=id) (u:=u) hu hj hS hT.id (u':=stT (wi u (zh s.cores[i]! id).1) 4) (t':=stT (wi t (zA s.cores[i]!.l id).1) 4) ⟨hS.id,hS.w,hS.group,hS.core,rfl,hS.mask,fun _=>rfl⟩ hT.id
    · have h5:u.state=5:=by
       rcases hT.st with h | h | h | h
       · rw[h] at hs;omega
       · exact absurd h h2
       · rw[h] at hs;omega
       · exact h
      refine(gB rb B own r id j t W hA aT hp hj (by rw[hS.state];exact h5)).mono ?_;rintro e w' ⟨he,eS,ak⟩;refine⟨he,B,own,_,eS,?_,ak⟩;have BE:zn s id u u.core.toNat=s:=by unfold zn;rw[if_neg h2]
      have ah:leaveT s u u.core.toNat=u:=by unfold leaveT;rw[if_neg h2]
      rw[BE,ah];exact hR.task hu hj hS hT.id (u':=stT u 4) (t':=stT t 4) ⟨hS.id,hS.w,hS.group,hS.core,rfl,hS.mask,fun _=>hS.lag h2⟩ hT.id
  · rw[if_neg he];refine(fz rb B own r 4 id j t W hA (by omega) hp hj (.inr (.inl rfl)) (by rw[hS.state];exact hT.st) (by rw[hS.state];exact he)).mono ?_;rintro e w' ⟨he,hB⟩;exact⟨by rw[he,hS.state];rfl,RQ.of hA hR hB⟩
theorem Rel.drop (hR:Rel s r) {x:Int} {j:Nat} {t:Tk} (hj:r.ts[j]? = some t) (hx:t.id=x) (ps':List (Int×Bool)):Rel ⟨s.cores,s.gs,s.acc,ps',fun y=>if y=x then none else s.tasks y,s.cnt⟩ ⟨r.cores,r.ts.eraseIdx j,r.gs,r.acc,ps'⟩:=by
 obtain⟨iK,GB⟩:=List.getElem?_eq_some_iff.1 hj;have FB:∀(i:Nat) (hi:i<r.ts.length),r.ts[i].id=x->i=j:=fun i hi e=>by
  have hp:=List.pairwise_iff_getElem.1 hR.srt;have T4:r.ts[j].id=x:=by rw[GB];exact hx
  rcases Nat.lt_trichotomy i j with ah | rfl | ah
  · have:=hp i j hi iK ah;omega
  · rfl
  · have:=hp j i iK hi ah;omega
 refine⟨hR.cores,hR.gs,hR.acc,rfl,List.Pairwise.sublist (List.eraseIdx_sublist _ _) hR.srt,fun p hp=>?_,fun y v hv=>?_,hR.zero,hR.tags⟩
 · obtain⟨i,hi,ay,rfl⟩:=List.mem_eraseIdx_iff_getElem.1 hp;obtain⟨u,hu,hS⟩:=hR.at_ _ (List.getElem_mem hi);refine⟨u,?_,hS⟩;show(if r.ts[i].id=x then none else s.tasks r.ts[i].id)=some u;rw[if_neg (fun e=>ay (FB i hi e))];exact hu
 · change (if y=x then none else s.tasks y)=some v at hv;by_cases e:y=x
   · rw[if_pos e] at hv;cases hv
   · rw[if_neg e] at hv;obtain⟨p,hp,FP⟩:=hR.all y v hv;obtain⟨i,hi,rfl⟩:=List.mem_iff_getElem.1 hp;refine⟨r.ts[i],List.mem_eraseIdx_iff_getElem.2 ⟨i,hi,fun e2=>?_,rfl⟩,FP⟩;subst e2;rw[GB,hx] at FP;exact e FP.symm
theorem Kw (hA:RAt W rb B own r) (hR:Rel s r) (hI:InvY k b n s) (hk:k<=400) (hb:b<=1000000000000000000) (id:Int) :
 Calls Tryz.prog 32 #[.pointer (some ⟨rb,0,none⟩),I 6,I id] W fun e w'=>e=.returned (I (fX s id).1)/\RQ rb own (fX s id).2 W w':=by
 have aT:=hR.few hI;unfold fX;cases hu:s.tasks id with
 | none=>exact(qD rb B own r 6 id W hA (by omega) (hR.gone hu)).mono (fun e w' ⟨he,hw⟩=>⟨he,hw ▸ RQ.of hA hR (Below.refl _ _)⟩)
 | some u=>
  have hT:=hI.task id u hu;obtain⟨j,t,iK,hj,hp,hS⟩:=hR.find hu hT.id;have hid:=hI.idle hu;have hz:xj r.ps:=by rw[hR.ps];exact hI.sized hk
  have aB:hasB r.ps id=true:=by rw[hR.ps];exact(hI.hasK ((hI.names id).1 (by rw[hu];simp))).1
  simp only
  have he:(nxt u.state 8).2=0:=(xM u.state).2.2.2.2 (by rcases hT.st with h | h | h | h <;> rw[h] <;> decide) (by rcases hT.st with h | h | h | h <;> rw[h] <;> decide);rw[if_pos he];by_cases h2:u.state=2
  · obtain⟨i,hi,aN,hh⟩:=hI.at_ hu h2;have iI:i<s.cores.length:=by rw[hI.len];exact aN
    rw[hi,Int.toNat_natCast];obtain⟨n1,n2,n3⟩:=hI.nums hk hb aN;refine(fy rb B own r id j t W hA aT hp hj (by rw[hS.state];exact h2) i s.cores[i]!.tag s.cores[i]!.l (by rw[hS.core];exact hi) (by rw[hR.len];exact iI) (hR.core iI).2 n1 (hI.wrapL hk hb aN) (uY hh) hid.1 (by omega) hz aB).mono ?_;rintro e w' ⟨he,B',own',eS,ak⟩;refine⟨he,B',own',_,eS,?_,ak⟩;have BE:zn s id u i=setTk (zN s i (zh s.cores[i]! u.id).2.2) id (wi u (zh s.cores[i]! u.id).1):=by unfold zn;rw[if_pos h2]
    have:=(hR.leave iI id).drop (x:=id) hj (by rw[hS.id];exact hT.id) (uq s.ps id).2;rw[hR.ps];unfold b8;rw[BE,hT.id];have e2:(fun x=>if x=id then none else(setTk (zN s i (zh s.cores[i]! id).2.2) id (wi u (zh s.cores[i]! id).1)).tasks x)=(fun y=>if y=id then none else(zN s i (zh s.cores[i]! id).2.2).tasks y):=by
     funext y
     by_cases e:y=id
     · rw[if_pos e,if_pos e]
     · rw[if_neg e,if_neg e];show(if y=id then _ else _)=_;rw[if_neg e]
    rw[e2];exact this
  · refine(dl rb B own r id j t W hA aT hp hj (by rw[hS.state];rcases hT.st with h | h | h | h <;> simp_all) hid.1 (by omega) hz aB).mono ?_;rintro e w' ⟨he,B',own',eS,ak⟩;refine⟨he,B',own',_,eS,?_,ak⟩;have BE:zn s id u u.core.toNat=s:=by unfold zn;rw[if_neg h2]
    unfold b8;rw[BE,hR.ps];exact hR.drop (x:=id) hj (by rw[hS.id];exact hT.id) (uq s.ps id).2
theorem WQ (hA:RAt W rb B own r) (hR:Rel s r) (hI:InvY k b n s) (hk:k<=400) (hb:b<=1000000000000000000) (id w:Int) :
 Calls Tryz.prog 33 #[.pointer (some ⟨rb,0,none⟩),I id,I w] W fun e w'=>e=.returned (I (uj s id w).1)/\RQ rb own (uj s id w).2 W w':=by
 have aT:=hR.few hI;unfold uj;cases hu:s.tasks id with
 | none=>exact(Zy rb B own r id w W hA (by omega) (hR.gone hu)).mono (fun e w' ⟨he,hw⟩=>⟨he,hw ▸ RQ.of hA hR (Below.refl _ _)⟩)
 | some u=>
  have hT:=hI.task id u hu;obtain⟨j,t,iK,hj,hp,hS⟩:=hR.find hu hT.id;simp only
  by_cases hw:zQ w=false
  · rw[if_pos hw];exact(YS rb B own r id w j W hA (by omega) hp hw).mono (fun e w' ⟨he,hw⟩=>⟨he,hw ▸ RQ.of hA hR (Below.refl _ _)⟩)
  · rw[if_neg hw];have nj:zQ w=true:=by simpa using hw
    by_cases h2:u.state=2
    · rw[if_pos h2];obtain⟨i,hi,aN,hh⟩:=hI.at_ hu h2;have iI:i<s.cores.length:=by rw[hI.len];exact aN
      rw[hi,Int.toNat_natCast];obtain⟨n1,n2,n3⟩:=hI.nums hk hb aN;refine(Vj rb B own r id w j t i s.cores[i]!.tag s.cores[i]!.l W hA (by omega) hp hj nj (by rw[hS.state];exact h2) (by rw[hS.core];exact hi) (by rw[hR.len];exact iI) (hR.core iI).2 n1 (fun p hp=>?_) (uY hh)).mono ?_
      · have h3:=(n3 p hp).1;have h4:=xZ w;rw[IntKind.wrap_i64];omega
      rintro e w' ⟨he,B',own',eS,ak⟩;refine⟨he,B',own',_,eS,?_,ak⟩;exact(hR.coreSet i (yA s.cores[i]! id w).2 iI rfl).task (x:=id) (u:=u) hu hj hS hT.id (u':=wTk u w) (t':=wTk t w) ⟨hS.id,rfl,hS.group,hS.core,hS.state,hS.mask,hS.lag⟩ hT.id
    · rw[if_neg h2];refine(YT rb B own r id w j t W hA (by omega) hp hj nj (by rw[hS.state];exact h2)).mono ?_;rintro e w' ⟨he,eS,ak⟩;exact⟨he,B,own,_,eS,hR.task hu hj hS hT.id (u':=wTk u w) (t':=wTk t w) ⟨hS.id,rfl,hS.group,hS.core,hS.state,hS.mask,hS.lag⟩ hT.id,ak⟩
end
section
attribute [local go_sem] Oper.semAt_some
theorem UW (rb:Nat) (B:RBk) (own:Nat->Option ROwn) (r:RSy) (id m:Int) (k:Nat) (t:Tk) (i:Nat) (x:Int) (r':RSy) (W:World) (h:RAt W rb B own r) (aT:r.ts.length<=1000) (hp:xr r.ts id=(k:Int)) (hk:r.ts[k]? = some t) (lw:1<=r.cores.length/\r.cores.length<=16) (hm:0<=m/\m<65536) (hg:ye m r.cores.length=true)
 (hs:t.state=2\/t.state=5) (hh:zW m t.core=false) (c0n:Nat) (hc:t.core=(c0n:Int)) (DN:c0n<16) (hl:(zD (zE r) m).1=(i:Int)) (hw:∀c∈r.cores,c.2.ps.length<=64/\∀p∈c.2.ps,0<=p.w/\p.w<=20)
 (ie:∀W',RAt W' rb B own ⟨r.cores,r.ts.set k (zI t m),r.gs,r.acc,r.ps⟩->Calls Tryz.prog 76 #[.pointer (some ⟨rb,0,none⟩),I k,I i] W' (fR rb own x r' W')) :
 Calls Tryz.prog 34 #[.pointer (some ⟨rb,0,none⟩),I id,.int .u16 m] W (fR rb own x r' W):=by
 have aE:=yd rb B own r id W h aT;rw[hp] at aE;obtain⟨N,l6⟩:∃N,r.cores.length=N:=⟨_,rfl⟩
 have lA:=wV m hm N (by omega) (by omega) W;rw[<- l6,hg] at lA;rw[l6] at lA;obtain⟨ca,cc,aQ,-⟩:=h.coreCell;have c0:=h.c0;rw[aQ,l6] at c0;have HR:=lH h;have HK:=lH hk;have tF:¬(k:Int)<0:=by omega
 have aX:0<=(k:Int):=by omega
 have tI:(zE r).length=r.cores.length:=by simp[zE]
 have me:=lH (show 0<(zE r).length by omega);have tU:=lH (fun W' (hR:RAt W' rb B own ⟨r.cores,r.ts.set k (zI t m),r.gs,r.acc,r.ps⟩)=>uJ rb B own _ W' hR lw.2 hw);have px:=lH (fun W' g' c' (hg:g'<W'.heap.size) (hx:∀j,j<(zE r).length->W'.cell? ⟨g',j,none⟩=some (I ((zE r).getD j 0)))=>uI g' c' (zE r).length (zE r) m hm W' rfl (by omega) hg hx);have eX:=ul m hm c0n DN;rw[<- hc,hh] at eX;have rN:=wC c0n DN;obtain⟨⟨lc,lb⟩,lI⟩:∃x,zD (zE r) m=x:=⟨_,rfl⟩
 rw[lI] at hl px;simp only at hl;subst hl;change Hid (∀W' (hR:RAt W' rb B own ⟨r.cores,r.ts.set k (zI t m),r.gs,r.acc,r.ps⟩),Calls Tryz.prog 71 #[.pointer (some ⟨rb,0,none⟩)] W' fun e w'=>∃v,e=.returned v/\w'.ownsRow W'.heap.size 2 1 v (zE r).length ((zE r).map fun x=>I x)/\Below W'.heap.size W' w') at tU;obtain⟨ls,pX⟩:∃x,zE r=x:=⟨_,rfl⟩
 rw[pX] at tU px me;obtain⟨m1,m2⟩:=hm;clear h hp hg aQ lw l6 hw lI tI pX hh;have main:∀(w1:World),Below W.heap.size W w1->∃g n c,w1.cell? ⟨rb,1,none⟩=some (.slice (some ⟨g,0,none⟩) n c)/\(k:Int)<(n:Int)/\(w1.cell? ⟨g,k*7,none⟩=some (I t.id)/\w1.cell? ⟨g,k*7+1,none⟩=some (I t.w)/\w1.cell? ⟨g,k*7+2,none⟩=some (I t.group)/\w1.cell? ⟨g,k*7+3,none⟩=some (I t.core)/\w1.cell? ⟨g,k*7+4,none⟩=some (I t.state) /\
  w1.cell? ⟨g,k*7+5,none⟩=some (.int .u16 t.mask)/\w1.cell? ⟨g,k*7+6,none⟩=some (I t.lag))/\w1.frozen? ⟨g,k*7+5,none⟩=false/\Hid (∀o:Obj,RAt ((w1.setCell ⟨g,k*7+5,none⟩ (.int .u16 m)).alloc o) rb B own ⟨r.cores,r.ts.set k (zI t m),r.gs,r.acc,r.ps⟩/\RStep own own W ((w1.setCell ⟨g,k*7+5,none⟩ (.int .u16 m)).alloc o)):=fun w1 hb=>by
  have hR:=HR.out.below hb;obtain⟨g,n,c,hv,aw,ho,hn,r0,r1,r2,r3,r4,r5,r6⟩:=hR.row_ HK.out;have c1:=hR.c1;rw[hv] at c1;have iN:=hR.taskCell hv (f:=5) (t':=zI t m) (u:=.int .u16 m) HK.out (by omega) rfl;refine⟨g,_,c,c1,by omega,⟨r0,r1,r2,r3,r4,r5,r6⟩,hR.freeT hv _,lH (fun o=>⟨iN.below ((Below.refl _ _).alloc (Nat.le_refl _) o),?_⟩)⟩;exact(RStep.below hb).trans ((RStep.keep (((Touch.refl (fun k=>k=g) w1).setCell (t:=none) (c:=g) (i:=k*7+5) (.inl rfl) (.int .u16 m))) (fun k hk=>by rw[hk,ho];simp)).trans (RStep.below ((Below.refl _ _).alloc (Nat.le_refl _) o)))
 have HM:=lH main;have Ao:=lH ie;obtain⟨tid,tw,tg,tc,tst,tm,tl⟩:=t;simp only at hs hc;subst hc;clear main ie;rcases hs with rfl | rfl;all_goals
  go_enter Tryz.func34,Tryz.ntmps34;go_wp2_with fail
  refine aE.mono ?_;rintro e w1 ⟨rfl,rfl⟩;go_wp2_with fail
  refine lA.mono ?_;rintro e w1 ⟨rfl,eE⟩;obtain⟨g,n,c,c1,aS,⟨r0,r1,r2,r3,r4,r5,r6⟩,f5,HF⟩:=HM.out w1 eE;try simp only at r0 r1 r2 r3 r4 r5 r6
  clear eE lA aE hk c0;go_wp2_with fail
  refine(tU.out _ (HF.out _).1).mono ?_;rintro e w3 ⟨v,rfl,aa,EV⟩;have RT:=lH ((HF.out _).1.below EV);have RX:=lH ((HF.out _).2.trans (RStep.below EV));clear r0 r1 r2 r3 r4 r5 r6 f5 c1;obtain⟨lg,lcap,rfl,D3⟩:=us aa me.out;have mC:=px.out w3 lg lcap (aa.lt lg rfl).2 D3;clear aa EV D3;go_wp2_with fail
  refine mC.mono ?_;rintro e w4 ⟨rfl,oE⟩;have DH:=RT.out.below oE;have EK:=lH (RX.out.trans (RStep.below oE));have rs:=Ao.out w4 DH;clear DH oE mC;go_wp2_with fail
  refine rs.mono ?_;rintro e w5 h5;have MN:=h5;obtain⟨rfl,-⟩:=MN;have H5:=lH (h5.from EK.out);clear h5 rs;go_wp2_with fail
  go_ret
  exact H5.out
theorem YF (rb:Nat) (B:RBk) (own:Nat->Option ROwn) (r:RSy) (up q p:Int) (W:World) (h:RAt W rb B own r) (he:(wF q p).2≠0) :
 Calls Tryz.prog 30 #[.pointer (some ⟨rb,0,none⟩),I up,I q,I p] W fun e w'=>e=.returned (.tuple #[I 0,I (wF q p).2])/\Below W.heap.size W w':=by
 have AG:=fun W'=>xY q p W';obtain⟨⟨⟨u0,u1,u2,u3⟩,ue⟩,hu⟩:∃x,wF q p=x:=⟨_,rfl⟩
 rw[hu] at AG he⊢;simp only[vr] at AG he⊢;clear h hu;go_enter Tryz.func30,Tryz.ntmps30;go_wp2_with fail
 refine(AG _).mono ?_;rintro e w1 ⟨rfl,eE⟩;have ef:=lH eE;have TM:(ue != 0)=true:=by simpa using he
 go_wp2_with fail
 go_ret2
 exact⟨rfl,ef.out.alloc ef.out.size _⟩
theorem YG (rb:Nat) (B:RBk) (own:Nat->Option ROwn) (r:RSy) (up q p:Int) (xs:List G16) (W:World) (h:RAt W rb B own r) (he:(wF q p).2=0) (hL:zq r.gs up xs) (ag:xs.length<=100) (h0:(r.gs.getD 0 default).1=true) (hg:(yp r.gs up xs.length).2.1≠0) :
 Calls Tryz.prog 30 #[.pointer (some ⟨rb,0,none⟩),I up,I q,I p] W fun e w'=>e=.returned (.tuple #[I 0,I (yp r.gs up xs.length).2.1])/\RAt w' rb B own ⟨r.cores,r.ts,(yp r.gs up xs.length).2.2,r.acc,r.ps⟩/\RStep own own W w':=by
 have AG:=fun W'=>xY q p W';obtain⟨⟨⟨u0,u1,u2,u3⟩,ue⟩,hu⟩:∃x,wF q p=x:=⟨_,rfl⟩
 rw[hu] at AG he;simp only[vr] at AG he;subst he;have mc:=lH (fun W' (hG:GrAt W' B.gb r.gs)=>Zr B.gb r.gs up xs W' hG hL ag h0);obtain⟨⟨x1,x2,x3⟩,hx⟩:∃x,yp r.gs up xs.length=x:=⟨_,rfl⟩
 rw[hx] at mc hg⊢;simp only at hg⊢;have HR:=lH h;have ic:(x2 != 0)=true:=by simpa using hg
 clear h hu hL h0 hx;go_enter Tryz.func30,Tryz.ntmps30;go_wp2_with fail
 refine(AG _).mono ?_;rintro e w1 ⟨rfl,eE⟩;have ib:Below W.heap.size W (w1.alloc (.cells #[I u0,I u1,I u2,I u3] 52)):=eE.alloc eE.size _;have iN:=HR.out.below ib;have nC:=mc.out _ iN.groups;have c3:=iN.c3;have ew:=lH ib;have nL:=lH iN;clear eE ib iN AG;go_wp2_with fail
 refine nC.mono ?_;rintro e w2 ⟨rfl,Be,aC⟩;have sN:=lH (nL.out.setG Be aC);have rW:Hid (RStep own own W w2):=lH ((RStep.below ew.out).trans (RStep.keep aC (fun k hk=>by rw[hk,HR.out.ogb];simp)));clear Be aC nC c3;go_wp2_with fail
 go_ret2
 exact⟨rfl,sN.out,rW.out⟩
def kM (W:World) (b o:Nat) (u0 u1 u2 u3:Int):World:=(((W.setCell ⟨b,o,none⟩ (I u0)).setCell ⟨b,o+1,none⟩ (I u1)).setCell ⟨b,o+2,none⟩ (I u2)).setCell ⟨b,o+3,none⟩ (I u3)
theorem RAt.accSet {W:World} {rb:Nat} {B:RBk} {own:Nat->Option ROwn} {r:RSy} (h:RAt W rb B own r) (k:Nat) (hk:k<16) (hl:r.acc.length=16) (u0 u1 u2 u3:Int) :
 RAt (kM W rb (4+k*4) u0 u1 u2 u3) rb B own ⟨r.cores,r.ts,r.gs,r.acc.set k (u0,u1,u2,u3),r.ps⟩/\RStep own own W (kM W rb (4+k*4) u0 u1 u2 u3):=by
 have hT:Touch (fun j=>j=rb) W (kM W rb (4+k*4) u0 u1 u2 u3):=by
  unfold kM;exact((((Touch.refl (fun j=>j=rb) W).setCell (t:=none) (c:=rb) (i:=4+k*4) (.inl rfl) _).setCell (t:=none) (c:=rb) (i:=4+k*4+1) (.inl rfl) _).setCell (t:=none) (c:=rb) (i:=4+k*4+2) (.inl rfl) _).setCell (t:=none) (c:=rb) (i:=4+k*4+3) (.inl rfl) _
 obtain⟨a0,a1,a2,a3⟩:=h.acc k hk;refine⟨h.setA k hk hl u0 u1 u2 u3 (fun j=>?_) (fun i=>?_) hT,RStep.keep hT (fun k hk=>by rw[hk,h.osys];simp)⟩
 · unfold kM;by_cases e3:j=4+k*4+3
   · rw[if_neg (by omega),if_neg (by omega),if_neg (by omega),if_pos e3,e3];exact World.cell?_setCell_same _ _ _ (by rw[za _ (by simp <;> omega),za _ (by simp <;> omega),za _ (by simp <;> omega)];exact a3)
   · rw[za _ (by simp <;> omega)];by_cases e2:j=4+k*4+2
     · rw[if_neg (by omega),if_neg (by omega),if_pos e2,e2];exact World.cell?_setCell_same _ _ _ (by rw[za _ (by simp <;> omega),za _ (by simp <;> omega)];exact a2)
     · rw[za _ (by simp <;> omega)];by_cases e1:j=4+k*4+1
       · rw[if_neg (by omega),if_pos e1,e1];exact World.cell?_setCell_same _ _ _ (by rw[za _ (by simp <;> omega)];exact a1)
       · rw[za _ (by simp <;> omega)];by_cases e0:j=4+k*4
         · rw[if_pos e0,e0];exact World.cell?_setCell_same _ _ _ a0
         · rw[if_neg e0,if_neg e1,if_neg e2,if_neg e3,za _ (by simp <;> omega)]
 · unfold kM;rw[World.frozen?_setCell,World.frozen?_setCell,World.frozen?_setCell,World.frozen?_setCell]
theorem WS (rb:Nat) (B:RBk) (own:Nat->Option ROwn) (r:RSy) (up q p:Int) (xs:List G16) (j:Nat) (W:World) (h:RAt W rb B own r) (he:(wF q p).2=0) (hL:zq r.gs up xs) (ag:xs.length<=100) (h0:(r.gs.getD 0 default).1=true) (hg:(yp r.gs up xs.length).2.1=0)
 (hj:(yp r.gs up xs.length).1=(j:Int)) (ml:j<16) (hl:r.acc.length=16) :
 Calls Tryz.prog 30 #[.pointer (some ⟨rb,0,none⟩),I up,I q,I p] W fun e w'=>e=.returned (.tuple #[I j,I 0])/\RAt w' rb B own ⟨r.cores,r.ts,(yp r.gs up xs.length).2.2,r.acc.set j (wF q p).1,r.ps⟩/\RStep own own W w':=by
 have AG:=fun W'=>xY q p W';obtain⟨⟨⟨u0,u1,u2,u3⟩,ue⟩,hu⟩:∃x,wF q p=x:=⟨_,rfl⟩
 rw[hu] at AG he⊢;simp only[vr] at AG he⊢;subst he;have mc:=lH (fun W' (hG:GrAt W' B.gb r.gs)=>Zr B.gb r.gs up xs W' hG hL ag h0);obtain⟨⟨x1,x2,x3⟩,hx⟩:∃x,yp r.gs up xs.length=x:=⟨_,rfl⟩
 rw[hx] at mc hg hj⊢;simp only at hg hj⊢;subst hg hj;have HR:=lH h;have HL:=lH hl;have oh:0<=(j:Int):=by omega
 have pE:(j:Int)<16:=by omega
 clear h hu hL h0 hx hl;go_enter Tryz.func30,Tryz.ntmps30;go_wp2_with fail
 refine(AG _).mono ?_;rintro e w1 ⟨rfl,eE⟩;have ib:Below W.heap.size W (w1.alloc (.cells #[I u0,I u1,I u2,I u3] 52)):=eE.alloc eE.size _;have iN:=HR.out.below ib;have nC:=mc.out _ iN.groups;have c3:=iN.c3;have ey:=heap_alloc_new w1 (.cells #[I u0,I u1,I u2,I u3] 52);have nB:=lH ey;have ew:=lH ib;have nL:=lH iN;have sO:=lH (show w1.heap.size<(w1.alloc (.cells #[I u0,I u1,I u2,I u3] 52)).heap.size/\B.gb≠w1.heap.size by refine⟨by simp,fun e=>?_⟩;have:=HR.out.lt B.gb (by rw[HR.out.ogb];simp);have:=eE.size;omega);clear eE ib iN AG ey;go_wp2_with fail
 refine nC.mono ?_;rintro e w2 ⟨rfl,Be,aC⟩;have nV:w2.heap[w1.heap.size]? = some (.cells #[I u0,I u1,I u2,I u3] 52 (0,0)):=(aC.block _ sO.out.1 (fun e=>sO.out.2 e.symm)).trans nB.out;obtain⟨y0,y1,y2,y3⟩:=zi nV;have mE:=nL.out.setG Be aC;have rZ:RStep own own W w2:=(RStep.below ew.out).trans (RStep.keep aC (fun k hk=>by rw[hk,HR.out.ogb];simp))
 obtain⟨a0,a1,a2,a3⟩:=mE.acc j ml;simp only at a0 a1 a2 a3;have f0:=mE.live (4+j*4);have f1:=mE.live (4+j*4+1);have f2:=mE.live (4+j*4+2);have f3:=mE.live (4+j*4+3);obtain⟨tY,CI⟩:=mE.accSet j ml HL.out u0 u1 u2 u3;have au:=lH (And.intro (tY.below (Below.refl _ _).drew) ((rZ.trans CI).trans (RStep.below (Below.refl _ _).drew)));clear Be aC nC c3 nV mE rZ tY CI;go_wp2_with fail
 go_still_tail 6,(by kernel_rfl)
 change wpList _ _ _ _ _ (World.drew _);go_wp2_with fail
 change bodyPost _ _ _ _ _ (World.drew (kM w2 rb (4+j*4) u0 u1 u2 u3));generalize World.drew (kM w2 rb (4+j*4) u0 u1 u2 u3)=Wf at au⊢;go_ret2
 exact⟨rfl,au.out.1,au.out.2⟩
end
theorem UK (tag:Int) (l:Ln) (ay:l.ps≠[]):∃p∈l.ps,p.id=(yg tag l).cur:=by
 have ed:∃p∈l.ps,p.id=(xi l).cur:=by
  unfold xi;rw[if_neg ay];exact⟨_,xH _ ay,rfl⟩
 unfold yg;split
 · exact ed
 · split
   · unfold xI;rcases zB l.ps l.cur with⟨hp,hn⟩ | ⟨j,hj,hp,hid,_⟩
     · rw[if_pos (by omega)];exact ed
     · rw[if_neg (by omega)];split
       · exact⟨_,List.getElem_mem hj,hid⟩
       · exact ed
   · obtain⟨-,h2,h3⟩:=ZR (yv l.ps).v (vT (yv l.ps).v l.ps) (uQ l.ps) l.ps none;obtain⟨r,hr,hd⟩:=h2 _ (xH l.ps ay) (by simp[dN]);have Tg:r∈l.ps:=by
      rcases h3 r hr with e | e
      · cases e
      · exact e
     refine⟨r,Tg,?_⟩;show r.id=QX (xv (yv l.ps).v (vT (yv l.ps).v l.ps) (uQ l.ps) l.ps);unfold xv;rw[hr];rfl
theorem UL (tag:Int) (l:Ln) (he:l.ps=[]):yg tag l=⟨l.base,-1,l.ps⟩:=by
 have ed:xi l=⟨l.base,-1,l.ps⟩:=by unfold xi;rw[if_pos he]
 unfold yg;split
 · exact ed
 · split
   · unfold xI;rw[if_pos,ed];rcases zB l.ps l.cur with⟨hp,hn⟩ | ⟨j,hj,hp,hid,_⟩
     · omega
     · rw[he] at hj;simp at hj
   · unfold vq;rw[he];rfl
section
variable {k n:Nat} {b:Int} {s:Sy} {r:RSy}
theorem X7 {c:Co} (he:c.l.ps=[]):(yE c).1=-1/\(yE c).2.1=0/\(yE c).2.2.tag=c.tag/\(yE c).2.2.l=⟨c.l.base,-1,c.l.ps⟩:=by
 have h:uh c.tag c.l=(0,14,⟨c.l.base,-1,c.l.ps⟩):=by
  unfold uh;rw[UL _ _ he];unfold z8;rw[if_pos];rcases zB c.l.ps (-1) with⟨hp,hn⟩ | ⟨j,hj,hp,hid,_⟩
  · show yh c.l.ps (-1)<0;omega
  · rw[he] at hj;simp at hj
 unfold yE;rw[h];simp
theorem LnK.run {l:Ln} (h:LnK k b l) (hk:k<=1000) (hb:b<=1000000000000000000) (ay:l.ps≠[]) (tag:Int) :
 ¬yh (yg tag l).ps (yg tag l).cur<0/\(uh tag l).2.1=0/\∃w,xd l (uh tag l).1 w:=by
 obtain⟨p1,p2⟩:=h.pick tag;obtain⟨p,hp,iS⟩:=UK tag l ay;have iV:=(jk tag l).1;have lp:¬yh (yg tag l).ps (yg tag l).cur<0:=by
  rcases zB (yg tag l).ps (yg tag l).cur with⟨-,hn⟩ | ⟨j,hj,hp,-⟩
  · exact absurd iS (hn p (by rw[iV];exact hp))
  · omega
 obtain⟨c1,c2,c3⟩:=p1.charge hk hb;refine⟨lp,?_⟩;rcases c3 with e | ⟨e,w,hw⟩
 · exfalso
   unfold z8 at e;rw[if_neg lp] at e;split at e
   · simp at e
   · simp at e
 · exact⟨e,w,(p2 _ w).1 hw⟩
theorem X6 {c:Co} (h:(uh c.tag c.l).2.1=0):(yE c).1=(uh c.tag c.l).1/\(yE c).2.1=0/\(yE c).2.2.tag=c.tag/\(yE c).2.2.l=(uh c.tag c.l).2.2:=by
 unfold yE;simp only[h];simp
theorem Wl (hR:Rel s r) (hI:InvY k b n s) (hk:k<=500) (NG:k<=400\/True) (hb:b<=1000000000000000000) {id:Int} (hid:id∈zf s.ps)
 (AI:∀i,i<n->s.cores[i]!.l.ps.length<=64/\∀p∈s.cores[i]!.l.ps,IntKind.i64.wrap (s.cores[i]!.l.base-p.v)=s.cores[i]!.l.base-p.v) :
 ∃j t xs,j<r.ts.length/\r.ts[j]? = some t/\xr r.ts id=((j:Nat):Int)/\zq r.gs t.group xs/\xs.length<=4 /\
  (((t.state≠2\/xs.any (yR r)=false)/\Rel (yI s id) r) \/
    (t.state=2/\xs.any (yR r)=true/\∃i tag l,t.core=((i:Nat):Int)/\i<r.cores.length/\r.cores[i]! = (tag,l)/\l.ps.length<=64/\(∀p∈l.ps,IntKind.i64.wrap (l.base-p.v)=l.base-p.v)/\¬yh l.ps t.id<0 /\
      Rel (yI s id) ⟨r.cores.set i (tag,(zA l t.id).2.2),r.ts.set j ⟨t.id,t.w,t.group,t.core,5,t.mask,(zA l t.id).1⟩,r.gs,r.acc,r.ps⟩)):=by
 obtain⟨u,xs,hu,hx⟩:=hI.some_ hid;have hT:=hI.task id u hu;obtain⟨j,t,iK,hj,hp,hS⟩:=hR.find hu hT.id;obtain⟨ys,hy,Et⟩:=hI.gs.path u.group;obtain rfl:=hx.unique hy;refine⟨j,t,xs,iK,hj,hp,by rw[hR.gs,hS.group];exact hx,Et,?_⟩;have aU:=vi hx;have Ab:yI s id=if u.state=2/\vX s u=true then setTk (zn s id u u.core.toNat) id (stT (leaveT s u u.core.toNat) (nxt u.state 6).1) else s:=by unfold yI;rw[hu]
 rw[aU] at Ab;rw[hR.spent,hS.state];by_cases h2:u.state=2
 · cases hh:xs.any (zO s) with
   | false=>
    refine .inl ⟨.inr rfl,?_⟩;rw[Ab,if_neg (by rw[hh];simp)];exact hR
   | true=>
    obtain⟨i,hi,aN,aB⟩:=hI.at_ hu h2;have lO:u.core.toNat=i:=by omega
    have iI:i<s.cores.length:=by rw[hI.len];exact aN
    have ah:leaveT s u i=wi u (zh s.cores[i]! id).1:=by unfold leaveT;rw[if_pos h2,hT.id]
    have BE:zn s id u i=setTk (zN s i (zh s.cores[i]! id).2.2) id (wi u (zh s.cores[i]! id).1):=by unfold zn;rw[if_pos h2,hT.id]
    have GH:t.id=id:=hS.id.trans hT.id;obtain⟨n1,n2⟩:=AI i aN;refine .inr ⟨h2,rfl,i,s.cores[i]!.tag,s.cores[i]!.l,by rw[hS.core];exact hi,by rw[hR.len];exact iI,(hR.core iI).2,n1,n2,by rw[GH];exact uY aB,?_⟩;rw[Ab,if_pos ⟨h2,hh⟩,lO,ah,BE,vk,h2,show(nxt 2 6).1=5 by simp[nxt],GH];have h1:=hR.leave iI id;have:=h1.task (x:=id) (u:=u) hu hj hS hT.id (u':=stT (wi u (zh s.cores[i]! id).1) 5) (t':=⟨id,t.w,t.group,t.core,5,t.mask,(zA s.cores[i]!.l id).1⟩) ⟨hT.id.symm,hS.w,hS.group,hS.core,rfl,hS.mask,fun _=>rfl⟩ hT.id;exact this
 · refine .inl ⟨.inl h2,?_⟩;rw[Ab,if_neg (fun e=>h2 e.1)];exact hR
end
theorem jG:∀(m:Nat) (l:List Nat),l.Nodup->(∀x∈l,x<m)->l.length<=m
 | 0,l,_,h=>by
  cases l with
  | nil=>simp
  | cons a l=>exact absurd (h a List.mem_cons_self) (by omega)
 | m+1,l,hn,h=>by
  by_cases hm:m∈l
  · have h1:=jG m (l.erase m) (hn.erase m) (fun x hx=>by
     have h2:=h x (List.mem_of_mem_erase hx);have h3:x≠m:=fun e=>by subst e;exact(List.Nodup.not_mem_erase hn) hx
     omega)
    rw[List.length_erase_of_mem hm] at h1;omega
  · have:=jG m l hn (fun x hx=>by
     have h2:=h x hx;have h3:x≠m:=fun e=>by subst e;exact hm hx
     omega)
    omega
theorem ZL.len {sv:List (Int×Int)} (h:ZL sv):sv.length<=100000001:=by
 have:=jG 100000001 (sv.map fun x=>x.1.toNat) (by
  have h1:=h.1;rw[List.Nodup,List.pairwise_map] at h1⊢;exact h1.imp_of_mem (fun ha hb e=>by
   have h3:=h.2 _ ha;have h4:=h.2 _ hb;omega)) (fun x hx=>by
  obtain⟨y,hy,rfl⟩:=List.mem_map.1 hx;have:=h.2 y hy;omega)
 simpa using this
section
attribute [local go_sem] Oper.semAt_some
theorem QU (xs:List Int) {k N:Nat} (hk:k<=N) (h1:1<=N):uz xs k<N:=by
 cases k with
 | zero=>show 0<N;omega
 | succ k=>have:=QV xs k;omega
theorem WT (g c N:Nat) (xs:List Int) (W:World) (hN:xs.length=N) (h1:1<=N) (nd:N<=16) (eL:g<W.heap.size) (hx:∀i,i<N->W.cell? ⟨g,i,none⟩=some (I (xs.getD i 0))) :
 Calls Tryz.prog 170 #[.slice (some ⟨g,0,none⟩) N c] W fun e w'=>e=.returned (.tuple #[I (xm xs),.bool true])/\Below W.heap.size W w':=by
 rw[Ww hN h1];have HX:=lH hx;have Gl:(0:Int)<(N:Int):=by omega
 clear hx hN;go_enter Tryz.func170,Tryz.ntmps170;go_wp2_with fail
 go_loopw [4,5] (fun y x wr=>∃k:Nat,k<=N/\x=I k/\y=I (uz xs k)/\Hid (Below W.heap.size W wr)) (fun _ x _=>N-(intOf x).toNat)
 case atStart=>exact⟨0,Nat.zero_le _,rfl,rfl,lH (Below.refl _ _)⟩
 case round=>
  obtain⟨k,hk,rfl,rfl,HB⟩:=hrel;have aX:0<=(k:Int):=by omega
  by_cases sU:k<N
  · have aw:(k:Int)<(N:Int):=by omega
    have Pn:=QU xs hk h1;have mr:uz xs (k+1)=if xs.getD (uz xs k) 0<xs.getD k 0 then k else uz xs k:=rfl
    obtain⟨j,hj⟩:∃j,uz xs k=j:=⟨_,rfl⟩
    rw[hj] at Pn mr⊢;have c1:=(HB.out.cell (p:=⟨g,k,none⟩) eL).trans (HX.out k sU)
    have c2:=(HB.out.cell (p:=⟨g,j,none⟩) eL).trans (HX.out j Pn)
    generalize xs.getD k 0=y at c1 mr;generalize xs.getD j 0=z at c2 mr;have oh:0<=(j:Int):=by omega
    have iK:(j:Int)<(N:Int):=by omega
    clear hj;by_cases ah:z<y
    · have tW:Hid (uz xs (k+1)=k):=lH (mr.trans (if_pos ah));clear mr;go_wp2_with fail
      go_quiet (fail)
      go_wp2_with fail
      go_roundw
      case rel=>exact⟨k+1,sU,by go_num,by rw[tW.out],lH (HB.out.trans ((zm _ _ _).mono HB.out.size))⟩
      case measure=>simp[intOf];omega
    · have tW:Hid (uz xs (k+1)=j):=lH (mr.trans (if_neg ah));clear mr;go_wp2_with fail
      go_quiet (fail)
      go_wp2_with fail
      go_roundw
      case rel=>exact⟨k+1,sU,by go_num,by rw[tW.out],lH (HB.out.trans ((zm _ _ _).mono HB.out.size))⟩
      case measure=>simp[intOf];omega
  · obtain rfl:k=N:=by omega
    have pF:0<k:=by omega
    go_wp2_with fail
    go_ret2
    exact⟨rfl,HB.out⟩
theorem WR (g c N gl cl M:Nat) (p:Option Addr) (xs:List Int) (l:List Lt) (W:World) (hM:l.length=M) (hx:∀i,i<N->W.cell? ⟨g,i,none⟩=some (I (xs.getD i 0))) (i7:∀i,i<N->0<=xs.getD i 0/\xs.getD i 0<=1280)
 (hl:vV W gl l) (mC:∀k,k<M->1<=l[k]!.w/\l[k]!.w<=20/\0<=l[k]!.core/\l[k]!.core<N) (h1:N<1000000) (h2:M<1000000) (hg:0<M->p=some ⟨gl,0,none⟩/\gl<W.heap.size) :
 Calls Tryz.prog 138 #[.slice (some ⟨g,0,none⟩) N c,.slice p M cl] W fun e w'=>e=.returned (.bool true)/\W=w':=by
 have HX:=lH hx;have oQ:=lH i7;have HL:=lH hl;have px:=lH mC;have HM:=lH hM;have HG:=lH hg;clear hx i7 hl mC hM hg;go_enter Tryz.func138,Tryz.ntmps138;go_wp2_with fail
 go_loop [5] (fun x=>∃k:Nat,k<=N/\x=I (k:Int)) (fun i=>N-(intOf i).toNat)
 case atStart=>exact⟨0,by omega,rfl⟩
 case round=>
  obtain⟨k,hk,rfl⟩:=hrel;by_cases aS:k<N
  · have c1:=HX.out k (by omega);have c2:=oQ.out k (by omega);generalize xs.getD k 0=y at c1 c2;obtain⟨y1,y2⟩:=c2;have y3:¬1099511627776<y:=by omega
    have y4:¬y<0:=by omega
    have k1:(k:Int)<(N:Int):=by omega
    have k0:0<=(k:Int):=by omega
    go_wp2_with fail
    go_round
    case rel=>exact⟨k+1,by omega,by go_num⟩
    case measure=>simp[intOf];omega
  · obtain rfl:k=N:=by omega
    go_wp2_with fail
    go_loop [6] (fun x=>∃q:Nat,q<=M/\x=I (q:Int)) (fun i=>M-(intOf i).toNat)
    case atStart=>exact⟨0,by omega,rfl⟩
    case round=>
     obtain⟨q,hq,rfl⟩:=hrel;by_cases oy:q<M
     · obtain⟨hp,hg⟩:=HG.out (by omega);subst hp;obtain⟨a0,a1,a2,a3⟩:=HL.out q (by rw[HM.out];exact oy);obtain⟨b1,b2,b3,b4⟩:=px.out q oy;generalize l[q]!.id=z0 at a0;generalize l[q]!.w=z1 at a1 b1 b2;generalize l[q]!.core=z2 at a2 b3 b4;generalize l[q]!.mask=z3 at a3;have k1:(q:Int)<(M:Int):=by omega
       have k0:0<=(q:Int):=by omega
       have lx:=yM z1 W;rw[show zQ z1=true by unfold zQ;simp[b1,b2]] at lx;have n3:¬z2<0:=by omega
       have n4:¬(k:Int)<=z2:=by omega
       go_wp2_with fail
       refine lx.mono ?_;rintro e w9 ⟨rfl,rfl⟩;go_wp2_with fail
       go_round
       case rel=>exact⟨q+1,by omega,by go_num⟩
       case measure=>simp[intOf];omega
     · obtain rfl:q=M:=by omega
       go_wp2_with fail
       go_ret
       exact⟨rfl,rfl⟩
end
section
variable {k n:Nat} {b:Int} {s s0:Sy} {r:RSy} {W:World} {rb:Nat} {B:RBk} {own:Nat->Option ROwn}
theorem jh {t:Tk}:onT t=true↔t.state=2\/t.state=5:=by
 unfold onT;simp
theorem X5 (hR:Rel s r) (hI:InvY k b n s0) (hc:s.cores=s0.cores) (hk:k<=400) (hb:b<=1000000000000000000) {id:Int} {u t:Tk} {q j:Nat} (hu:s.tasks id=some u) (hid:u.id=id) (hq:r.ts[q]? = some t) (hS:SamT u t) (hs:u.state=2\/u.state=5) (mZ:j<n) (ay:u.core≠(j:Int))
 (h2:u.state=2->∃i:Nat,u.core=(i:Int)/\i<n/\xd s0.cores[i]!.l id u.w/\(zg (zn s id u i).cores[j]! id u.w (leaveT s u i).lag true).1=0) :
 ∃r',(∀(W':World) (B:RBk) (own:Nat->Option ROwn),RAt W' rb B own r->Calls Tryz.prog 76 #[.pointer (some ⟨rb,0,none⟩),I q,I j] W' (fR rb own 0 r' W')) /\
  Rel (if u.state=5 then setTk s id (coT u j) else je s id u u.core.toNat j) r':=by
 by_cases h5:u.state=5
 · refine⟨⟨r.cores,r.ts.set q (coT t j),r.gs,r.acc,r.ps⟩,fun W' B own h=>?_,?_⟩
   · refine(Va rb B own r q t j W' h hq (by rw[hS.core];exact ay) (by rw[hS.state,h5];decide)).mono ?_;rintro e w' ⟨he,hA,aG⟩;exact⟨he,B,own,hA,aG⟩
   · rw[if_pos h5];exact hR.task hu hq hS hid (u':=coT u j) (t':=coT t j) ⟨hS.id,hS.w,hS.group,rfl,hS.state,hS.mask,hS.lag⟩ hid
 · have sG:u.state=2:=by rcases hs with h | h;exact h;exact absurd h h5
   obtain⟨i,hi,aN,hh,h0⟩:=h2 sG;have AC:i≠j:=fun e=>ay (by rw[hi,e]);have hl:s.cores.length=n:=by rw[hc];exact hI.len
   have eB:i<s.cores.length:=by omega
   have iK:j<s.cores.length:=by omega
   have ah:leaveT s u i=wi u (zh s.cores[i]! id).1:=by unfold leaveT;rw[if_pos sG,hid]
   have BE:zn s id u i=setTk (zN s i (zh s.cores[i]! id).2.2) id (wi u (zh s.cores[i]! id).1):=by unfold zn;rw[if_pos sG,hid]
   have sA:(zn s id u i).cores[j]! = s.cores[j]!:=by
    rw[kV iK,if_neg (fun e=>AC e.2)]
   rw[sA,ah] at h0;obtain⟨e1,e2,e3⟩:=vu h0;simp only[if_true] at e3;obtain⟨n1,n2,n3⟩:=hI.nums hk hb aN;obtain⟨m1,m2,m3⟩:=hI.nums hk hb mZ;have GJ:=hI.wrapL hk hb aN;rw[<- hc] at n1 n2 n3 m1 m2 m3 GJ hh;have Tn:s.cores[j]!.tag=0\/s.cores[j]!.tag=1\/s.cores[j]!.tag=2:=by
    rw[getElem!_pos _ j iK];exact hR.tags _ (List.getElem_mem iK)
   have GH:t.id=id:=by rw[hS.id];exact hid
   refine⟨⟨(r.cores.set i (s.cores[i]!.tag,(zA s.cores[i]!.l t.id).2.2)).set j (s.cores[j]!.tag,xR s.cores[j]!.l t.id t.w (zA s.cores[i]!.l t.id).1),r.ts.set q (coT t j),r.gs,r.acc,r.ps⟩,fun W' B own h=>?_,?_⟩
   · refine(Vb rb B own r q t i j s.cores[i]!.tag s.cores[j]!.tag s.cores[i]!.l s.cores[j]!.l W' h hq (by rw[hS.core];exact hi) AC (by rw[hS.state];exact sG) (by rw[hR.len];exact eB) (by rw[hR.len];exact iK) (hR.core eB).2 (hR.core iK).2 n1 GJ (by rw[GH];exact uY hh) Tn m1 (by omega) (by rw[GH,hS.w];exact e1)).mono ?_;rintro e w' ⟨he,B',own',hA,aG⟩;exact⟨he,B',own',hA,aG⟩
   · rw[if_neg h5,hi,Int.toNat_natCast];unfold je;rw[sA,ah,BE,fE,GH,hS.w];have lV:=hR.leave eB id;have iN:=lV.coreSet j (zg s.cores[j]! id u.w (wi u (zh s.cores[i]! id).1).lag true).2 (by show j<(s.cores.set i _).length;rw[List.length_set];exact iK) (by
      show _=(s.cores.set i _)[j]!.tag;rw[yL _ _ _ _ iK,if_neg AC];exact e2)
     rw[e2,e3] at iN;exact iN.task (x:=id) (u:=u) hu hq hS hid (u':=coT (wi u (zh s.cores[i]! id).1) j) (t':=coT t j) ⟨hS.id,hS.w,hS.group,rfl,hS.state,hS.mask,fun h=>absurd sG h⟩ hid
theorem Zs (hA:RAt W rb B own r) (hR:Rel s r) (hI:InvY k b n s) (hk:k<=400) (hb:b<=1000000000000000000) (id z:Int) :
 Calls Tryz.prog 35 #[.pointer (some ⟨rb,0,none⟩),I id,I z] W fun e w'=>e=.returned (I (xP s id z).1)/\RQ rb own (xP s id z).2 W w':=by
 have aT:=hR.few hI;have h8:=hI.n8;unfold xP;cases hu:s.tasks id with
 | none=>exact(YI rb B own r id z W hA (by omega) (hR.gone hu)).mono (fun e w' ⟨he,hw⟩=>⟨he,hw ▸ RQ.of hA hR (Below.refl _ _)⟩)
 | some u=>
  have hT:=hI.task id u hu;obtain⟨q,t,nO,hq,hp,hS⟩:=hR.find hu hT.id;simp only
  by_cases iR:onT u=true
  · have hs:=jh.1 iR;have aG:t.state=2\/t.state=5:=by rw[hS.state];exact hs
    by_cases hh:zW u.mask z=true
    · obtain⟨j,rfl,mZ⟩:=gG hT.mask.1 hT.mask.2 hh;by_cases hc:(j:Int)=u.core
      · rw[if_pos (.inr (.inr hc))];refine(Zv rb B own r id q j t 0 r W hA (by omega) hp hq aG (by rw[hS.mask];exact hT.mask.1) (by omega) (by rw[hS.mask];exact hh) (fun W' h=>?_)).mono ?_
        · have:=Vc rb B own r q t W' h hq;rw[hS.core,<- hc] at this;refine this.mono ?_;rintro e w' ⟨he,hB⟩;exact⟨he,B,own,h.below hB,RStep.below hB⟩
        · rintro e w' ⟨he,B',own',eS,p8⟩;refine⟨?_,B',own',r,eS,hR,p8⟩;rw[he];unfold dK;rw[if_neg (by rw[iR];simp),if_neg (by rw[hh];simp)]
      · rw[if_neg (by rw[iR,hh];simp;exact hc)];obtain⟨r',ie,hrel⟩:=X5 (rb:=rb) hR hI rfl hk hb (j:=j) hu hT.id hq hS hs mZ (fun e=>hc e.symm) (fun h2=>by
         obtain⟨i,hi,aN,Ny⟩:=hI.at_ hu h2;refine⟨i,hi,aN,Ny,?_⟩;have:=(hI.moveG hk hu h2 hi aN mZ u.mask hT.mask hh).1;have T9:zI u u.mask=u:=rfl;rw[T9,k8 hu] at this;exact this)
        refine(Zv rb B own r id q j t 0 r' W hA (by omega) hp hq aG (by rw[hS.mask];exact hT.mask.1) (by omega) (by rw[hS.mask];exact hh) (fun W' h=>ie W' B own h)).mono ?_;rintro e w' ⟨he,B',own',eS,p8⟩;rw[Int.toNat_natCast];by_cases h5:u.state=5
        · rw[if_pos h5] at hrel⊢;exact⟨he,B',own',r',eS,hrel,p8⟩
        · rw[if_neg h5] at hrel⊢;exact⟨he,B',own',r',eS,hrel,p8⟩
    · have rp:zW u.mask z=false:=by simpa using hh
      rw[if_pos (.inr (.inl rp))];refine(YH rb B own r id z q t W hA (by omega) hp hq aG (by rw[hS.mask];exact hT.mask.1) (by rw[hS.mask];exact rp)).mono ?_;rintro e w' ⟨he,hB⟩;refine⟨?_,RQ.of hA hR hB⟩;rw[he];unfold dK;rw[if_neg (by rw[iR];simp),if_pos rp]
  · have IV:onT u=false:=by simpa using iR
    rw[if_pos (.inl IV)];have mG:¬(u.state=2\/u.state=5):=fun h=>iR (jh.2 h);refine(WV rb B own r id z q t W hA (by omega) hp hq (by rw[hS.state];exact fun h=>mG (.inl h)) (by rw[hS.state];exact fun h=>mG (.inr h))).mono ?_;rintro e w' ⟨he,hB⟩;refine⟨?_,RQ.of hA hR hB⟩;rw[he];unfold dK;rw[if_pos IV]
theorem UZ (hA:RAt W rb B own r) (hR:Rel s r) (hI:InvY k b n s) (hk:k<=400) (hb:b<=1000000000000000000) (id m:Int) (hm:0<=m/\m<65536) :
 Calls Tryz.prog 34 #[.pointer (some ⟨rb,0,none⟩),I id,.int .u16 m] W fun e w'=>e=.returned (I (qM s id m).1)/\RQ rb own (qM s id m).2 W w':=by
 have aT:=hR.few hI;have h8:=hI.n8;have om:r.cores.length=n:=by rw[hR.len,hI.len]
 unfold qM;cases hu:s.tasks id with
 | none=>exact(YC rb B own r id m W hA (by omega) (hR.gone hu)).mono (fun e w' ⟨he,hw⟩=>⟨he,hw ▸ RQ.of hA hR (Below.refl _ _)⟩)
 | some u=>
  have hT:=hI.task id u hu;obtain⟨q,t,nO,hq,hp,hS⟩:=hR.find hu hT.id;simp only
  by_cases hg:ye m s.cores.length=false
  · rw[if_pos hg];exact(WK rb B own r id m q W hA (by omega) hp (by omega) hm (by rw[hR.len];exact hg)).mono (fun e w' ⟨he,hB⟩=>⟨he,RQ.of hA hR hB⟩)
  · rw[if_neg hg];have ic:ye m s.cores.length=true:=by simpa using hg
    have Fu:ye m n=true:=by rw[<- hI.len];exact ic
    have lV:Rel (setTk s id (zI u m)) ⟨r.cores,r.ts.set q (zI t m),r.gs,r.acc,r.ps⟩:=hR.task hu hq hS hT.id (u':=zI u m) (t':=zI t m) ⟨hS.id,hS.w,hS.group,hS.core,hS.state,rfl,hS.lag⟩ hT.id;by_cases hs:onT u=false\/zW m u.core=true
    · rw[if_pos hs];refine(YD rb B own r id m q t W hA (by omega) hp hq (by omega) hm (by rw[hR.len];exact ic) ?_).mono ?_
      · rw[hS.state,hS.core];by_cases iR:onT u=true
        · have Gm:=jh.1 iR;obtain⟨c0,lW,Fi⟩:=hT.core (by rcases Gm with h | h <;> rw[h] <;> decide);refine .inr ⟨Gm,?_,c0,lW,by omega⟩;rcases hs with h | h
          · rw[iR] at h;cases h
          · exact h
        · have mG:¬(u.state=2\/u.state=5):=fun h=>iR (jh.2 h);exact .inl ⟨fun h=>mG (.inl h),fun h=>mG (.inr h)⟩
      · rintro e w' ⟨he,B',own',eS,p8⟩;exact⟨he,B',own',_,eS,lV,p8⟩
    · rw[if_neg hs];have iR:onT u=true:=by
       by_cases e:onT u=true
       · exact e
       · exact absurd (.inl (by simpa using e)) hs
      have Gm:=jh.1 iR;have hh:zW m u.core=false:=by
       by_cases e:zW m u.core=true
       · exact absurd (.inr e) hs
       · simpa using e
      obtain⟨j,hj,mZ,D9⟩:=ws hI ⟨hm,Fu⟩;have C3:u.core≠(j:Int):=fun e=>by rw[e,D9] at hh;cases hh
      obtain⟨c0,lW,Fi⟩:=hT.core (by rcases Gm with h | h <;> rw[h] <;> decide);obtain⟨AE,pG⟩:=hI.loadsOk hk hb hR;obtain⟨r',ie,hrel⟩:=X5 (rb:=rb) lV hI rfl hk hb (j:=j) (u:=zI u m) (t:=zI t m) (wW _ _ _) hT.id (uc hq) ⟨hS.id,hS.w,hS.group,hS.core,hS.state,rfl,hS.lag⟩ Gm mZ C3 (fun h2=>by
       obtain⟨i,hi,aN,Ny⟩:=hI.at_ hu h2;exact⟨i,hi,aN,Ny,(hI.moveG hk hu h2 hi aN mZ m ⟨hm,Fu⟩ D9).1⟩)
      refine(UW rb B own r id m q t j 0 r' W hA (by omega) hp hq (by omega) hm (by rw[hR.len];exact ic) (by rw[hS.state];exact Gm) (by rw[hS.core];exact hh) c0 (by rw[hS.core];exact lW) (by omega) (by rw[hR.loads];exact hj) pG (fun W' h=>ie W' B own h)).mono ?_;rintro e w' ⟨he,B',own',eS,p8⟩;rw[hj,Int.toNat_natCast];by_cases h5:u.state=5
      · rw[if_pos h5];rw[if_pos (show(zI u m).state=5 from h5)] at hrel;exact⟨he,B',own',r',eS,hrel,p8⟩
      · rw[if_neg h5];rw[if_neg (show¬(zI u m).state=5 from h5)] at hrel;exact⟨he,B',own',r',eS,hrel,p8⟩
end
def vS (N:Int) (acc:List xS):Nat->List xS
 | 0=>acc
 | k+1=>tkA N (vS N acc k) (k:Int)
theorem kL (N:Int) (acc:List xS):∀k,(vS N acc k).length=acc.length
 | 0=>rfl
 | k+1=>(cY N _ _).trans (kL N acc k)
theorem Vk (l:List xS) (k:Nat) (v:xS) (h:l.getD k default=v):l.set k v=l:=by
 by_cases hk:k<l.length
 · rw[List.getD_eq_getElem?_getD,List.getElem?_eq_getElem hk] at h;simp only[Option.getD_some] at h;subst h;exact List.set_getElem_self hk
 · exact List.set_eq_of_length_le (by omega)
theorem bj (N:Int) (gs:List (Bool×Int)) (acc:List xS) (hl:acc.length=16) (hz:∀g:Nat,g<16->zL gs g=false->acc.getD g default=(0,0,0,0)) :
 ∀k,k<=16->vS N acc k=(yU gs k).foldl (tkA N) acc/\∀j,k<=j->(vS N acc k).getD j default=acc.getD j default
 | 0,_=>⟨rfl,fun _ _=>rfl⟩
 | k+1,hk=>by
  obtain⟨h1,h2⟩:=bj N gs acc hl hz k (by omega);have ag:=kL N acc k;refine⟨?_,fun j hj=>?_⟩
  · show tkA N (vS N acc k) (k:Int)=(yU gs k++_).foldl (tkA N) acc;rw[List.foldl_append,<- h1];by_cases hg:zL gs k=true
    · rw[if_pos hg];rfl
    · rw[if_neg hg];have h0:=(h2 k (Nat.le_refl _)).trans (hz k (by omega) (by simpa using hg))
      show tkA N (vS N acc k) (k:Int)=vS N acc k;unfold tkA;rw[Int.toNat_natCast];refine Vk _ _ _ ?_;rw[h0];simp[zJ,yb]
  · show(tkA N (vS N acc k) (k:Int)).getD j default=_;unfold tkA;rw[Int.toNat_natCast,yP _ _ _ _ (by omega),if_neg (by omega)];exact h2 j (by omega)
theorem dt (N:Int) (gs:List (Bool×Int)) (acc:List xS) (hl:acc.length=16) (hz:∀g:Nat,g<16->zL gs g=false->acc.getD g default=(0,0,0,0)) :
 ∀k,k<=16->∀g:Nat,g<16->zL gs g=false->(vS N acc k).getD g default=(0,0,0,0)
 | 0,_=>hz
 | k+1,hk=>fun g hg hh=>by
  have ih:=dt N gs acc hl hz k (by omega) g hg hh;show(tkA N (vS N acc k) (k:Int)).getD g default=_;unfold tkA;rw[Int.toNat_natCast,yP _ _ _ _ (by rw[kL];omega)];split
  · rename_i e;subst e;rw[ih];simp[zJ,yb]
  · exact ih
section
variable {k n:Nat} {b:Int} {s:Sy} {r:RSy}
theorem V4 (hR:Rel s r) (hI:InvY k b n s) (hk:k<=400) (hb:b<=1000000000000000000) {id:Int} (hid:id∈zf s.ps) :
 ∃j t xs,j<r.ts.length/\r.ts[j]? = some t/\xr r.ts id=((j:Nat):Int)/\zq r.gs t.group xs/\xs.length<=4 /\
  (((t.state≠5\/xs.any (yR r)=true)/\Rel (yJ s id) r) \/
    (t.state=5/\xs.any (yR r)=false/\∃i tag l,t.core=((i:Nat):Int)/\i<r.cores.length/\r.cores[i]! = (tag,l)/\(tag=0\/tag=1\/tag=2)/\l.ps.length<=64/\(-1152921504606846976<=l.base/\l.base<=1152921504606846976)/\zP l t.id t.w t.lag=0 /\
      Rel (yJ s id) ⟨r.cores.set i (tag,xR l t.id t.w t.lag),r.ts.set j (stT t 2),r.gs,r.acc,r.ps⟩)):=by
 obtain⟨u,xs,hu,hx⟩:=hI.some_ hid;have hT:=hI.task id u hu;obtain⟨j,t,iK,hj,hp,hS⟩:=hR.find hu hT.id;obtain⟨ys,hy,Et⟩:=hI.gs.path u.group;obtain rfl:=hx.unique hy;refine⟨j,t,xs,iK,hj,hp,by rw[hR.gs,hS.group];exact hx,Et,?_⟩;have aU:=vi hx;have Ab:yJ s id=if u.state=5/\vX s u=false then(zX s id u false u.core.toNat 7 true).2 else s:=by unfold yJ;rw[hu]
 rw[aU] at Ab;rw[hR.spent,hS.state];by_cases h5:u.state=5
 · cases hh:xs.any (zO s) with
   | true=>
    refine .inl ⟨.inr rfl,?_⟩;rw[Ab,if_neg (by rw[hh];simp)];exact hR
   | false=>
    obtain⟨i,hi,aN⟩:=hT.core (by omega);have lO:u.core.toNat=i:=by omega
    have iI:i<s.cores.length:=by rw[hI.len];exact aN
    have Fn:=(hI.enter (act:=7) hk hu false true hi aN (hT.has (.inr h5)) (by rw[h5];rfl) (by omega)).1;have iZ:t.lag=u.lag:=hS.lag (by rw[h5];decide);have r9:(zg s.cores[i]! u.id u.w u.lag true).1=0:=by
     unfold zX at Fn;rw[if_neg (by simp)] at Fn;by_cases e:(zg s.cores[i]! u.id u.w u.lag true).1=0
     · exact e
     · rw[if_neg e] at Fn;exact absurd Fn e
    obtain⟨n1,n2,n3⟩:=hI.nums hk hb aN;refine .inr ⟨h5,rfl,i,s.cores[i]!.tag,s.cores[i]!.l,by rw[hS.core];exact hi,by rw[hR.len];exact iI,(hR.core iI).2,hI.tag hR aN,n1,n2,?_,?_⟩
    · rw[hS.id,hS.w,iZ];exact(vu r9).1
    · rw[Ab,if_pos ⟨h5,hh⟩,lO];unfold zX;rw[if_neg (by simp),if_pos r9,h5,show(nxt 5 7).1=2 from rfl];have:=hR.enter hu hT.id hj hS iI (u':=stT u 2) (t':=stT t 2) (ex:=true) hT.id iZ.symm r9 ⟨hS.id,hS.w,hS.group,hS.core,rfl,hS.mask,fun _=>iZ⟩;simpa using this
 · refine .inl ⟨.inl h5,?_⟩;rw[Ab,if_neg (fun e=>h5 e.1)];exact hR
theorem Yo {ids l:List Int} (hp:ids.Perm l) (hl:l.Pairwise fun a b=>a%64<b%64) (hs:ids.Pairwise fun a b=>¬b<a):ids.Pairwise fun a b=>a<b:=by
 have IP:l.Nodup:=hl.imp (fun h e=>by rw[e] at h;omega);have NO:ids.Nodup:=hp.nodup_iff.2 IP;exact(List.Pairwise.and hs NO).imp (fun⟨h1,h2⟩=>by have:_≠_:=h2;omega)
end
end Go.Proofs.YtoiajjobecinpaaGreat
