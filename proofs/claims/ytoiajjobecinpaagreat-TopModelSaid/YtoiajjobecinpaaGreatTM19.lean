/- A state is told: the walk. State, world.New. world.New. A task that is not held comes to its core; S -/
import Derived.Test.YtoiajjobecinpaaGreatTM17
set_option maxHeartbeats 4000000
set_option maxRecDepth 100000
namespace Go.Proofs.YtoiajjobecinpaaGreat
open Go.RowKit Go.Shelf Go.Lib Go.Proofs
set_option linter.unusedVariables false
set_option linter.unusedSimpArgs false
section
attribute [local go_sem] Oper.semAt_some
def OfP (s:Sy) (w:World) (e:Ending) (W':World):Prop:=
 ∃vs:Nat->Value,e=.returned (.agg #[vs 0,vs 1,vs 2,vs 3,vs 4])/\StateR s (w.heap.size+2) W' vs/\Below w.heap.size w W'
theorem ct {W:World} {B:Nat} {a b c d f:Value} {t:TypeId} (h:W.heap[B]? = some (.cells #[a,b,c,d,f] t (0,0))) :
 (W.cell? ⟨B,0,none⟩=some a/\W.cell? ⟨B,1,none⟩=some b/\W.cell? ⟨B,2,none⟩=some c/\W.cell? ⟨B,3,none⟩=some d/\W.cell? ⟨B,4,none⟩=some f)/\(∀i,W.frozen? ⟨B,i,none⟩=false) /\
 ∀a' b' c' d' f',(((((W.setCell ⟨B,0,none⟩ a').setCell ⟨B,1,none⟩ b').setCell ⟨B,2,none⟩ c').setCell ⟨B,3,none⟩ d').setCell ⟨B,4,none⟩ f').heap[B]? = some (.cells #[a',b',c',d',f'] t (0,0)):=by
 refine⟨⟨?_,?_,?_,?_,?_⟩,fun i=>by simp only[World.frozen?,h];simp,fun a' b' c' d' f'=>?_⟩
 · simp only[World.cell?,h];rfl
 · simp only[World.cell?,h];rfl
 · simp only[World.cell?,h];rfl
 · simp only[World.cell?,h];rfl
 · simp only[World.cell?,h];rfl
 · simp[World.setCell,Array.getElem?_modify,h]
theorem yt {W:World} {H:Nat} {t:TypeId} {sz:Nat} {v:Value} {n:Nat} {xs:List Value} (h:W.ownsRow H t sz v n xs):∃a n c,v=.slice a n c:=by
 rcases h.2 with⟨e,_⟩ | ⟨g,cap,cur,e,_⟩
 · exact⟨_,_,_,e⟩
 · exact⟨_,_,_,e⟩
theorem UI {gs:List (Bool×Int)} {id:Int} {ys:List G16} (hp:zq gs id ys):(ys=[]->zL gs id=false)/\(ys≠[]->zL gs id=true):=by
 cases ys with
 | nil=>exact⟨fun _=>hp,fun h=>absurd rfl h⟩
 | cons y t=>exact⟨fun h=>(by cases h),fun _=>hp.2.1⟩
structure TellY (s:Sy):Prop where
 sized:xj s.ps
 dom:gn s
 ready:ZK s
 fits:xT s
 path:∀g:Nat,g<16->∃xs,zq s.gs (g:Int) xs/\xs.length<=1000
 acc:s.acc.length=16
theorem Jg (sb gb nb pb mb n:Nat) (cv:Value) (D:DataW Unit) (cbs:List Nat) (tb:Int->Nat) (own:Nat->Option Own) (s:Sy) (w:World) (h:SysAt w sb gb nb pb mb n cv D cbs tb own s) (hy:TellY s) (nd:cbs.length<=16) :
 Calls Tryz.prog 39 #[.pointer (some ⟨sb,0,none⟩)] w (OfP s w):=by
 have hf:=hy.fits;have HY:=lH hy;have en:Below w.heap.size w ((w.alloc (.cells #[.slice none 0 0,.slice none 0 0,.slice none 0 0,.slice none 0 0,.slice none 0 0] 44)).alloc (.cells #[.slice none 0 0,.slice none 0 0,.slice none 0 0,.slice none 0 0,.slice none 0 0] 44)):=((Below.refl _ w).alloc (Nat.le_refl _) _).alloc (by simp) _;have l8:=XS sb gb nb pb mb n cv D cbs tb own s _ (h.below en);have AI:=h.num;have ix:=Zb w s.cores;generalize hN:cbs.length=N at l8 nd AI;have HS:=lH h;have HF:=lH hf;have HN:=lH hN;have G1:=lH AI;have lL:=lH ix;clear h hf hy AI hN ix en;unfold OfP;go_enter Tryz.func39,Tryz.ntmps39;go_wp2_with fail
 refine l8.mono ?_;rintro e w1 ⟨rfl,rfl⟩;clear l8;generalize(w.alloc (.cells #[.slice none 0 0,.slice none 0 0,.slice none 0 0,.slice none 0 0,.slice none 0 0] 44)).alloc (.cells #[.slice none 0 0,.slice none 0 0,.slice none 0 0,.slice none 0 0,.slice none 0 0] 44)=W0 at lL⊢;go_wp2_with fail
 go_loopw [15] (fun x wr=>∃k:Nat,k<=N/\x=I k/\Hid (gK w s.cores k wr)) (fun x _=>N-(intOf x).toNat)
 case atStart=>exact⟨0,Nat.zero_le _,rfl,lL⟩
 case round=>
  obtain⟨k,hk,rfl,HI⟩:=hrel;by_cases sU:k<N
  · obtain⟨vs,cnt,xs,P,fl,mX,rF,eG,Bk,lW,mQ,ik⟩:=HI.out;have Pb:=HS.out.below rF;have Cn:k<cbs.length:=by rw[HN.out];exact sU
    have sV:k<s.cores.length:=by rw[<- G1.out];exact sU
    have LI:=jX sb gb nb pb mb n cv D cbs tb own s k wr Pb Cn;obtain⟨cb,mu⟩:∃x,cbs[k]! = x:=⟨_,rfl⟩
    rw[mu] at LI;have aS:(k:Int)<(N:Int):=by omega
    have aX:(0:Int)<=(k:Int):=by omega
    have af:∀W',Below w.heap.size w W'->Calls Tryz.prog 88 #[.pointer (some ⟨cb,0,none⟩)] W' (fun e w'=>e=.returned (I s.cores[k]!.tag)/\W'=w')/\Calls Tryz.prog 89 #[.pointer (some ⟨cb,0,none⟩)] W' (uS W' s.cores[k]!.l.cur (zw s.cores[k]!.l)):=fun W' hb=>by
     have h1:=Uf _ _ _ W' ((HS.out.below hb).core k Cn);have h2:=dz _ _ _ W' ((HS.out.below hb).core k Cn) (HF.out k sV);rw[mu] at h1 h2;exact⟨h1,h2⟩
    have v0:=mX.cell 0 (by omega);have IH:=mX.live 0;have Ah:wr.ownsRow (w.heap.size+2) 3 1 (vs 0) k (xs 0):=by have:=mX.row 0 (by omega);rw[lW.1] at this;exact this
    obtain⟨i0,sf,aI,et,lE⟩:=info_parts dD;obtain⟨i70,oh,DX,PB,SZ⟩:=info_parts Jc;have BY:=(af wr.drew rF.drew).1;obtain⟨tg,nJ⟩:∃x,s.cores[k]!.tag=x:=⟨_,rfl⟩
    rw[nJ] at BY;obtain⟨va,Cs⟩:∃x,vs 0=x:=⟨_,rfl⟩
    rw[Cs] at v0 Ah;have EZ:=mX.lt;have hM:=fun(w4:World) (g cap:Nat) hg al aE=>gK.tag (w4:=w4) (g:=g) (cap:=cap) (o:=.cells #[I tg] 3) sV mX rF eG Bk lW mQ ik hg al aE;rw[nJ,Cs] at hM;have AJ:((wr.alloc (.cells #[I tg] 3)).drew).ownsRow (w.heap.size+2) 3 1 va k (xs 0):=Ah.alloc _;have PJ:∀(j:Nat) (u:Value),[I tg][j]? = some u->((wr.alloc (.cells #[I tg] 3)).drew).cell? ((⟨wr.heap.size,0,none⟩:Addr).add j)=some u:=World.news_of_block (cs:=#[I tg]) (t:=3) (fr:=(0,0)) (heap_alloc_new wr _);have s9:Hid (((wr.alloc (.cells #[I tg] 3)).drew).heap.size=wr.heap.size+1):=lH (World.size_alloc wr _);have oA:va.ownBlock≠some (w.heap.size+1):=fun e=>by have:=(Ah.lt _ e).1;omega
    have LD:RwS (w.heap.size+1) 0 va wr.drew:=v0;have E6:RwS (w.heap.size+1) 0 va (wr.alloc (.cells #[I tg] 3)).drew:=c2a _ v0;have lL:=lH mX;have sk:=lH rF;have HM:=lH hM;have HV:=lH Cs;have Dp:=lH af;have Gc:=lH IH;clear mX rF Pb af hM lW mQ ik eG Bk nJ Cs HI IH;go_wp2_with fail
    refine LI.mono ?_;rintro e w2 ⟨rfl,rfl⟩;go_wp2_with fail
    refine zK (S:=RwS (w.heap.size+1) 0 va) (T:=[7]) (by kernel_rfl) ?_;refine zS (i:=0) (v:=?_) rfl (by kernel_rfl) (by kernel_rfl) (by kernel_rfl) (by kernel_rfl) (fun _ _ _ h=>h) (Or.inl ⟨by rfl,?_⟩) (by assumption) ?_;rotate_left
    · intro w2 iq;(unfold RwS at iq);go_simp;(first | done | with_reducible rfl)
    simp only[Act.put,List.setIfInBounds_toArray,List.set_cons_zero,List.set_cons_succ];refine zS (i:=1) (v:=?_) rfl (by kernel_rfl) (by kernel_rfl) (by kernel_rfl) (by kernel_rfl) (fun _ _ _ h=>h) (Or.inl ⟨by rfl,?_⟩) (by assumption) ?_;rotate_left
    · intro w2 iq;(unfold RwS at iq);go_simp;(first | done | with_reducible rfl)
    simp only[Act.put,List.setIfInBounds_toArray,List.set_cons_zero,List.set_cons_succ];refine zS (i:=2) (v:=?_) rfl (by kernel_rfl) (by kernel_rfl) (by kernel_rfl) (by kernel_rfl) (fun _ _ _ h=>h) (Or.inl ⟨by rfl,?_⟩) (by assumption) ?_;rotate_left
    · intro w2 iq;(unfold RwS at iq);go_simp;(first | done | with_reducible rfl)
    simp only[Act.put,List.setIfInBounds_toArray,List.set_cons_zero,List.set_cons_succ];refine ze (i:=3) (by kernel_rfl) rfl (by kernel_rfl) ?_;intro K3 hK;go_simp
    refine BY.mono ?_;rintro e w9 ⟨rfl,rfl⟩;refine hK _ _ LD ?_;clear hK;refine ze (i:=4) (by kernel_rfl) rfl (by kernel_rfl) ?_;intro K4 hK;go_simp
    refine hK _ _ E6 ?_;clear hK;refine ze (i:=5) (by kernel_rfl) rfl (by kernel_rfl) ?_;intro K5 hK;refine step_append_lies _ rfl _ _ _ rfl (w.heap.size+2) 3 i0 (I 0) 1 8 Tryz.underlying22 sf aI et lE rfl (by decide) va k (xs 0) rfl AJ ⟨wr.heap.size,0,none⟩ 1 1 [I tg] rfl rfl PJ (by simp[Value.oneCell']) (by omega) (by unfold maxLen;omega) (by omega) (by rw[s9.out];omega) (wr.heap.size+1) s9.out ?_;intro g cap w4 aV aq eW ln;have lS:w4.heap[w.heap.size+1]? = wr.heap[w.heap.size+1]?:=(aq.block (w.heap.size+1) (by rw[s9.out];omega) (fun e=>oA e.symm)).trans (show(wr.alloc _).heap[w.heap.size+1]? = wr.heap[w.heap.size+1]? from Below.heap_alloc _ _ _ (by omega))
    have DI:RwS (w.heap.size+1) 0 va w4:=(World.cell?_of_block (a:=⟨w.heap.size+1,0,none⟩) lS).trans v0;have M2:w4.cell? ⟨w.heap.size+1,0,none⟩=some va:=DI;have Nm:w4.frozen? ⟨w.heap.size+1,0,none⟩=false:=(World.frozen?_of_block (a:=⟨w.heap.size+1,0,none⟩) lS).trans Gc.out;refine hK _ _ DI ?_;clear hK;simp only[Act.put,List.setIfInBounds_toArray,List.set_cons_zero,List.set_cons_succ];refine ze (i:=6) (by kernel_rfl) rfl (by kernel_rfl) ?_;intro K6 hK;go_simp
    refine hK _ _ DI ?_;clear hK;refine zk (i:=7) (by kernel_rfl) rfl (by kernel_rfl) ?_;intro K7 hK;go_simp
    refine hK _ _ ?_;clear hK;refine zy (by kernel_rfl) ?_ _;have Px:(wr.alloc (.cells #[I tg] 3)).grownBy w4 va.ownBlock:=⟨aq.os,aq.tape,aq.output,aq.size,aq.block⟩
    have Hp:=HM.out w4 g cap Px aV eW;clear aq aV eW ln lS DI M2 Nm Px LD E6 AJ PJ oA v0 Ah HV HM EZ BY lL sk s9 Gc;generalize w4.setCell ⟨w.heap.size+1,0,none⟩ (.slice (some ⟨g,0,none⟩) (k+1) cap)=w5 at Hp⊢;clear vs cnt xs P fl w4;obtain⟨vs,cnt,xs,P,fl,mX,rF,eG,Bk,lW,mQ,ik⟩:=Hp;have v1:=mX.cell 1 (by omega);have mn:=mX.live 1;have aW:w5.ownsRow (w.heap.size+2) 70 2 (vs 1) k (xs 1):=by have:=mX.row 1 (by omega);rw[mQ.1] at this;exact this
    obtain⟨vb,Oh⟩:∃x,vs 1=x:=⟨_,rfl⟩
    obtain⟨ys,Dm⟩:∃x,xs 1=x:=⟨_,rfl⟩
    rw[Oh] at v1 aW;rw[Dm] at aW;have EZ:=mX.lt;have hM:=fun(w8 w4:World) (g cap:Nat) (o:Obj) (v:Value) mP AJ hg al aE=>VJ.form (w8:=w8) (w4:=w4) (g:=g) (cap:=cap) (o:=o) (v:=v) sV mX rF eG Bk lW mQ ik mP AJ hg al aE;rw[Oh,Dm] at hM;have By:=(Dp.out w5.drew rF.drew).2;obtain⟨cur,mB⟩:∃x,s.cores[k]!.l.cur=x:=⟨_,rfl⟩
    obtain⟨its,oY⟩:∃x,zw s.cores[k]!.l=x:=⟨_,rfl⟩
    rw[mB,oY] at By;rw[mB,oY] at hM;have LD:RwS (w.heap.size+1) 1 vb w5.drew:=v1;have oA:vb.ownBlock≠some (w.heap.size+1):=fun e=>by have:=(aW.lt _ e).1;omega
    have HM:=lH hM;have Gc:=lH mn;have ra:=lH aW;clear mX rF eG Bk lW mQ ik Oh Dm mB oY hM Dp mn aW;go_wp2_with fail
    refine zK (S:=RwS (w.heap.size+1) 1 vb) (T:=[7]) (by kernel_rfl) ?_;refine zS (i:=0) (v:=?_) rfl (by kernel_rfl) (by kernel_rfl) (by kernel_rfl) (by kernel_rfl) (fun _ _ _ h=>h) (Or.inl ⟨by rfl,?_⟩) (by assumption) ?_;rotate_left
    · intro w2 iq;(unfold RwS at iq);go_simp;(first | done | with_reducible rfl)
    simp only[Act.put,List.setIfInBounds_toArray,List.set_cons_zero,List.set_cons_succ];refine zS (i:=1) (v:=?_) rfl (by kernel_rfl) (by kernel_rfl) (by kernel_rfl) (by kernel_rfl) (fun _ _ _ h=>h) (Or.inl ⟨by rfl,?_⟩) (by assumption) ?_;rotate_left
    · intro w2 iq;(unfold RwS at iq);go_simp;(first | done | with_reducible rfl)
    simp only[Act.put,List.setIfInBounds_toArray,List.set_cons_zero,List.set_cons_succ];refine zS (i:=2) (v:=?_) rfl (by kernel_rfl) (by kernel_rfl) (by kernel_rfl) (by kernel_rfl) (fun _ _ _ h=>h) (Or.inl ⟨by rfl,?_⟩) (by assumption) ?_;rotate_left
    · intro w2 iq;(unfold RwS at iq);go_simp;(first | done | with_reducible rfl)
    simp only[Act.put,List.setIfInBounds_toArray,List.set_cons_zero,List.set_cons_succ];refine ze (i:=3) (by kernel_rfl) rfl (by kernel_rfl) ?_;intro K3 hK;go_simp
    refine By.mono ?_;rintro e w9 ⟨v9,rfl,nP,eQ⟩;obtain⟨a9,c9,nK⟩:=(FSl.of nP).form;subst nK;have AO:=eQ.size;have Bt:w9.heap[w.heap.size+1]? = w5.heap[w.heap.size+1]?:=eQ.block (w.heap.size+1) (show w.heap.size+1<w5.heap.size by omega);have E6:RwS (w.heap.size+1) 1 vb w9:=(World.cell?_of_block (a:=⟨w.heap.size+1,1,none⟩) Bt).trans v1;have DI:RwS (w.heap.size+1) 1 vb (w9.alloc (.cells #[I cur,.slice a9 its.length c9] 70)):=c2a _ E6;have iF:=zb ra.out (fun j hj=>eQ.block j (ra.out.lt j hj).2);have mM:=lH nP;have rz:=lH eQ;obtain⟨L9,MW⟩:∃x,its.length=x:=⟨_,rfl⟩
    rw[MW] at DI mM;rw[MW];refine hK _ _ E6 ?_;clear hK;refine ze (i:=4) (by kernel_rfl) rfl (by kernel_rfl) ?_;intro K4 hK;go_simp
    refine hK _ _ DI ?_;clear hK;refine ze (i:=5) (by kernel_rfl) rfl (by kernel_rfl) ?_;intro K5 hK;refine step_append_lies _ rfl _ _ _ rfl (w.heap.size+2) 70 i70 (.agg #[I 0,.slice none 0 0]) 2 32 Tryz.underlying40 oh DX PB SZ rfl (by decide) vb k ys rfl (iF.alloc _) ⟨w9.heap.size,0,none⟩ 1 1 [I cur,.slice a9 L9 c9] rfl rfl (World.news_of_block (cs:=#[I cur,.slice a9 L9 c9]) (t:=70) (fr:=(0,0)) (heap_alloc_new w9 _)) (by simp[Value.oneCell']) (by omega) (by unfold maxLen;omega) (by omega) (by simp;have:w5.heap.size<=w9.heap.size:=AO;omega) (w9.heap.size+1) (by simp) ?_;intro g cap w4 aV aq eW ln;have lS:w4.heap[w.heap.size+1]? = w9.heap[w.heap.size+1]?:=(aq.block (w.heap.size+1) (by have:w5.heap.size<=w9.heap.size:=AO;simp;omega) (fun e=>oA e.symm)).trans (Below.heap_alloc _ _ _ (by have:w5.heap.size<=w9.heap.size:=AO;omega))
    have LE:RwS (w.heap.size+1) 1 vb w4:=(World.cell?_of_block (a:=⟨w.heap.size+1,1,none⟩) lS).trans E6;have M3:w4.cell? ⟨w.heap.size+1,1,none⟩=some vb:=LE;have Nm:w4.frozen? ⟨w.heap.size+1,1,none⟩=false:=(World.frozen?_of_block (a:=⟨w.heap.size+1,1,none⟩) (lS.trans Bt)).trans Gc.out;refine hK _ _ LE ?_;clear hK;simp only[Act.put,List.setIfInBounds_toArray,List.set_cons_zero,List.set_cons_succ];refine ze (i:=6) (by kernel_rfl) rfl (by kernel_rfl) ?_;intro K6 hK;go_simp
    refine hK _ _ LE ?_;clear hK;refine zk (i:=7) (by kernel_rfl) rfl (by kernel_rfl) ?_;intro K7 hK;go_simp
    refine hK _ _ ?_;clear hK;refine zy (by kernel_rfl) ?_ _;have Ia:Below w5.heap.size w5 w9:=⟨rz.out.os,rz.out.tape,rz.out.output,rz.out.size,rz.out.block⟩
    have I7:w9.ownsRow w5.heap.size 77 3 (.slice a9 L9 c9) its.length (yG its):=by rw[MW];exact mM.out
    have Hi:=HM.out w9 w4 g cap (.cells #[I cur,.slice a9 L9 c9] 70) (.slice a9 L9 c9) Ia I7 aq aV eW;have mc:=lH Hi;clear Hi Ia I7 aq aV eW ln lS LE M3 Nm LD E6 DI oA v1 HM EZ Gc mM rz eQ nP iF Bt AO ra;generalize w4.setCell ⟨w.heap.size+1,1,none⟩ (.slice (some ⟨g,0,none⟩) (k+1) cap)=w6 at mc⊢;go_wp2_with fail
    go_roundw
    case rel=>exact⟨k+1,sU,by go_num,mc⟩
    case measure=>simp[intOf];omega
  · obtain rfl:k=N:=by omega
    have hI:=HI.out;rw[G1.out] at hI;have rF:Below w.heap.size w wr:=by obtain⟨_,_,_,_,_,_,h,_⟩:=hI;exact h
    have n7:=Vy sb gb nb pb mb n cv D cbs tb own s wr (HS.out.below rF) HY.out.sized HY.out.dom HY.out.ready HY.out.fits;have Dr:=lH hI;have sk:=lH rF;clear hI rF HI lL;go_wp2_with fail
    refine n7.mono ?_;rintro e w7 ⟨tv,rfl,Eg,sT⟩;obtain⟨⟨c2,f2⟩,hA⟩:=Dr.out.tasks sT Eg;obtain⟨ta,tn,tc,sj⟩:∃a n c,tv=.slice a n c:=by
     rcases Eg.2 with⟨e,_⟩ | ⟨g,cap,cur,e,_⟩
     · exact⟨_,_,_,e⟩
     · exact⟨_,_,_,e⟩
    subst sj;have HA:=lH hA;clear hA Eg sT Dr sk n7;go_wp2_with fail
    clear c2 f2;generalize w7.setCell ⟨w.heap.size+1,2,none⟩ (.slice ta tn tc)=w8 at HA⊢;go_loopw [42] (fun x wq=>∃q:Nat,q<=16/\x=I q/\Hid (∃vs cnt xs P fl,OfA w s q q wq vs cnt xs P fl)) (fun x _=>16-(intOf x).toNat)
    case atStart=>exact⟨0,by omega,rfl,HA⟩
    case round=>
     obtain⟨q,hq,rfl,HQ⟩:=hrel;by_cases FQ:q<16
     · obtain⟨vs,cnt,xs,P,fl,hA⟩:=HQ.out;obtain⟨ys,hp,sE⟩:=HY.out.path q FQ;have Bo:=VR sb gb nb pb mb n cv D cbs tb own s q ys wr (HS.out.below hA.below) hp sE;have pH:(q:Int)<16:=by omega
       have aB:(ys=[]->zL s.gs (q:Int)=false)/\(ys≠[]->zL s.gs (q:Int)=true):=UI hp;have pK:=lH aB;have HA:=lH hA;clear hp sE aB hA HQ;go_wp2_with fail
       refine Bo.mono ?_;rintro e w9 ⟨eQ,nf⟩;rcases nf with⟨Dm,rfl⟩ | ⟨Dm,rfl⟩
       · have Ov:=lH ((HA.out.same eQ).same ((Below.refl _ _).alloc (Nat.le_refl _) (.cells #[I 0,I 0,I 0,I 0] 119)));have Lu:=lH (ZO (pK.out.1 Dm));clear eQ Dm Bo HA pK;go_wp2_with fail
         generalize w9.alloc (.cells #[I 0,I 0,I 0,I 0] 119)=w10 at Ov⊢;go_roundw
         case rel=>
          refine⟨q+1,FQ,by go_num,lH ?_⟩;obtain⟨a1,a2,a3,a4,a5,a6,a7,a8,a9⟩:=Ov.out;exact⟨vs,cnt,xs,P,fl,a1,a2,a3,a4,a5,a6,a7,by rw[Lu.out];exact a8,by rw[Lu.out];exact a9⟩
         case measure=>simp[intOf];omega
       · have BI:=ZN (pK.out.2 Dm);obtain⟨qq,NX⟩:∃x,s.acc.getD q default=x:=⟨_,rfl⟩
         have I6:s.acc.getD ((q:Int)).toNat default=qq:=by rw[Int.toNat_natCast];exact NX
         rw[NX] at BI;rw[I6];have hW:=(HA.out.same eQ).same ((Below.refl _ _).alloc (Nat.le_refl _) (.cells #[I qq.1,I qq.2.1,I qq.2.2.1,I qq.2.2.2] 119));have aJ:=heap_alloc_new w9 (.cells #[I qq.1,I qq.2.1,I qq.2.2.1,I qq.2.2.2] 119);have hK:=hW.keep (B:=w9.heap.size) (by simp) (by have:=HA.out.st.lt;have:=eQ.size;omega) (fun i hi e=>by have:=((HA.out.st.row i hi).lt _ e).2;have:=eQ.size;omega) (by have:=HA.out.st.lt;have:=eQ.size;omega);have Ds:=lH BI;clear hW NX I6 eQ Dm Bo HA pK BI;go_upto_region 17 with fail
         generalize w9.alloc (.cells #[I qq.1,I qq.2.1,I qq.2.2.1,I qq.2.2.2] 119)=w10 at hK aJ⊢;generalize w9.heap.size=B9 at hK aJ⊢;clear w9;obtain⟨⟨b0,b1,b2,b3⟩,-,-⟩:=kN aJ;obtain⟨i2,aX,iY,ly,tG⟩:=info_parts U1;have ah:=hK.st.lt;have v3:=hK.st.cell 3 (by omega);have f3:=hK.st.live 3;have aL:w10.ownsRow (w.heap.size+2) 2 1 (vs 3) (cnt 3) (xs 3):=hK.st.row 3 (by omega);have nW:cnt 3<=16:=by rw[hK.lefts.1];exact Nat.le_trans (du s q) (by omega)
         have mE:=fun(w4:World) (g cap:Nat) hg al aE=>hK.row3 (w4:=w4) (g:=g) (cap:=cap) (o:=.cells #[I qq.2.2.1] 2) Ds.out hg al aE;obtain⟨vc,P4⟩:∃x,vs 3=x:=⟨_,rfl⟩
         obtain⟨c3,Id⟩:∃x,cnt 3=x:=⟨_,rfl⟩
         obtain⟨zs,Cb⟩:∃x,xs 3=x:=⟨_,rfl⟩
         rw[P4] at v3 aL mE;rw[Id] at aL nW mE;rw[Cb] at aL mE;have oA:vc.ownBlock≠some (w.heap.size+1):=fun e=>by have:=(aL.lt _ e).1;omega
         have HB:=lH aJ;have sN:=lH mE;clear P4 Id Cb mE aJ hK;go_upto_region 18 with(at_builtin;refine wpList_append_lies _ rfl _ _ 42 rfl (w.heap.size+2) 2 i2 (I 0) 1 8 Tryz.underlying42 aX iY ly tG rfl (by decide) vc c3 zs rfl (aL.alloc _) ⟨w10.heap.size,0,none⟩ 1 1 [I qq.2.2.1] rfl rfl (World.news_of_block (cs:=#[I qq.2.2.1]) (t:=2) (fr:=(0,0)) (heap_alloc_new w10 _)) (by simp[Value.oneCell']) (by omega) (by unfold maxLen;omega) (by omega) (by simp;omega) (w10.heap.size+1) (by simp) ?_;intro g cap w4 aV aq eW ln;have hR:=sN.out w4 g cap aq aV eW;obtain⟨⟨d3,e3⟩,Hh,NG⟩:=hR;have L2:=lH Hh;have OE:=lH NG;clear Hh NG aV aq eW ln)
         have Bu:=(OE.out B9 (.inr rfl)).trans HB.out;clear d3 e3 b0 b1 b2 b3 HB OE sN aL oA v3 f3 nW ah;generalize w4.setCell ⟨w.heap.size+1,3,none⟩ (.slice (some ⟨g,0,none⟩) (c3+1) cap)=w11 at L2 Bu⊢;obtain⟨vs,cnt,xs,hK⟩:=L2.out;obtain⟨⟨b0,b1,b2,b3⟩,-,-⟩:=kN Bu;have ah:=hK.st.lt;have v3:=hK.st.cell 4 (by omega);have f3:=hK.st.live 4;have aL:w11.ownsRow (w.heap.size+2) 2 1 (vs 4) (cnt 4) (xs 4):=hK.st.row 4 (by omega);have nW:cnt 4<=16:=by rw[hK.phases.1];exact Nat.le_trans (du s q) (by omega)
         have mE:=fun(w4:World) (g cap:Nat) hg al aE=>hK.row4 (w4:=w4) (g:=g) (cap:=cap) (o:=.cells #[I qq.2.2.2] 2) Ds.out hg al aE;obtain⟨vd,P5⟩:∃x,vs 4=x:=⟨_,rfl⟩
         obtain⟨c4,Id⟩:∃x,cnt 4=x:=⟨_,rfl⟩
         obtain⟨zt,Cb⟩:∃x,xs 4=x:=⟨_,rfl⟩
         rw[P5] at v3 aL mE;rw[Id] at aL nW mE;rw[Cb] at aL mE;have oA:vd.ownBlock≠some (w.heap.size+1):=fun e=>by have:=(aL.lt _ e).1;omega
         have sN:=lH mE;clear P5 Id Cb mE Bu hK L2;go_upto_region 19 with(at_builtin;refine wpList_append_lies _ rfl _ _ 42 rfl (w.heap.size+2) 2 i2 (I 0) 1 8 Tryz.underlying42 aX iY ly tG rfl (by decide) vd c4 zt rfl (aL.alloc _) ⟨w11.heap.size,0,none⟩ 1 1 [I qq.2.2.2] rfl rfl (World.news_of_block (cs:=#[I qq.2.2.2]) (t:=2) (fr:=(0,0)) (heap_alloc_new w11 _)) (by simp[Value.oneCell']) (by omega) (by unfold maxLen;omega) (by omega) (by simp;omega) (w11.heap.size+1) (by simp) ?_;intro g2 cap2 w5 aV aq eW ln;have hR:=sN.out w5 g2 cap2 aq aV eW;obtain⟨⟨d3,e3⟩,OU⟩:=hR;have Ow:=lH OU;clear OU aV aq eW ln)
         clear d3 e3 b0 b1 b2 b3 sN aL oA v3 f3 nW ah;generalize w5.setCell ⟨w.heap.size+1,4,none⟩ (.slice (some ⟨g2,0,none⟩) (c4+1) cap2)=w12 at Ow⊢;go_wp2_with fail
         go_roundw
         case rel=>
          refine⟨q+1,FQ,by go_num,lH ?_⟩;obtain⟨vs',cnt',xs',hA⟩:=Ow.out;exact⟨vs',cnt',xs',_,fl,hA⟩
         case measure=>simp[intOf];omega
     · obtain rfl:q=16:=by omega
       obtain⟨vs,cnt,xs,P,fl,hA⟩:=HQ.out;obtain⟨⟨b0,b1,b2,b3,b4⟩,bf,bp⟩:=ct hA.zero;have v0:=hA.st.cell 0 (by omega);have v1:=hA.st.cell 1 (by omega);have v2:=hA.st.cell 2 (by omega);have v3:=hA.st.cell 3 (by omega);have v4:=hA.st.cell 4 (by omega);have bf0:=bf 0;have bf1:=bf 1;have bf2:=bf 2;have bf3:=bf 3;have bf4:=bf 4;obtain⟨a0,n0,m0,s0⟩:=yt (hA.st.row 0 (by omega));obtain⟨a1,n1,m1,s1⟩:=yt (hA.st.row 1 (by omega));obtain⟨a2,n2,m2,s2⟩:=yt (hA.st.row 2 (by omega));obtain⟨a3,n3,m3,s3⟩:=yt (hA.st.row 3 (by omega));obtain⟨a4,n4,m4,s4⟩:=yt (hA.st.row 4 (by omega));rw[s0] at v0;rw[s1] at v1;rw[s2] at v2;rw[s3] at v3;rw[s4] at v4;have Lv:=lH (And.intro s0 (And.intro s1 (And.intro s2 (And.intro s3 s4))));clear s0 s1 s2 s3 s4;have L4:=lH bp;have HA:=lH hA;clear hA bf bp HQ;go_wp2_with fail
       obtain⟨⟨g0,g1,g2,g3,g4⟩,-,-⟩:=ct (L4.out (.slice a0 n0 m0) (.slice a1 n1 m1) (.slice a2 n2 m2) (.slice a3 n3 m3) (.slice a4 n4 m4));obtain⟨s0,s1,s2,s3,s4⟩:=Lv.out;refine bodyPost_ret (v:=.agg #[.slice a0 n0 m0,.slice a1 n1 m1,.slice a2 n2 m2,.slice a3 n3 m3,.slice a4 n4 m4]) (by simp[results,Tryz.results39,go_sem,g0,g1,g2,g3,g4]) rfl ⟨vs,by rw[s0,s1,s2,s3,s4],HA.out.done (by simp) (fun j hj=>?_),?_⟩
       · rw[Below.heap_setCell _ _ _ _ (by simpa using hj),Below.heap_setCell _ _ _ _ (by simpa using hj),Below.heap_setCell _ _ _ _ (by simpa using hj),Below.heap_setCell _ _ _ _ (by simpa using hj),Below.heap_setCell _ _ _ _ (by simpa using hj)]
       · exact((((HA.out.below.setCell (by simp) _).setCell (by simp) _).setCell (by simp) _).setCell (by simp) _).setCell (by simp) _
theorem StateR.same {s:Sy} {H H':Nat} {W W':World} {vs:Nat->Value} (h:StateR s H W vs) (hs:W.heap.size<=W'.heap.size) (hb:∀k,H<=k->k<W.heap.size->W'.heap[k]? = W.heap[k]?) (hH:H'<=H):StateR s H' W' vs:=by
 have aa:∀{t sz v n xs},W.ownsRow H t sz v n xs->W'.ownsRow H' t sz v n xs:=fun hr=>zM (zb hr (fun k hk=>hb k (hr.lt k hk).1 (hr.lt k hk).2)) hH;obtain⟨fl,P,h1,h2,h3⟩:=h.forms;refine⟨aa h.tags,⟨fl,P,aa h1,?_,fun k hk=>Nat.le_trans hH (h3 k hk)⟩,aa h.tasks,aa h.lefts,aa h.phases⟩;have:∀{fs:List (Int×Value)} {cs:List Co},yk W P fs cs->yk W' P fs cs:=by
  intro fs;induction fs with
  | nil=>intro cs hh;cases cs with
   | nil=>trivial
   | cons c cs=>exact hh.elim
  | cons f fs ih=>intro cs hh;cases cs with
   | nil=>exact hh.elim
   | cons c cs=>exact⟨⟨hh.1.1,hh.1.2.1.same hs (fun k hk=>hb k (h3 k (hh.1.2.2 k hk)) (hh.1.2.1.lt hk)),hh.1.2.2⟩,ih hh.2⟩
 exact this h2
def StP (s:Sy) (w:World) (e:Ending) (W':World):Prop:=
 ∃vs:Nat->Value,e=.returned (.agg #[vs 0,vs 1,vs 2,vs 3,vs 4])/\StateR s w.heap.size W' vs/\Below w.heap.size w W'
theorem Vr (ob:Nat) (sb gb nb pb mb n:Nat) (cv:Value) (D:DataW Unit) (cbs:List Nat) (tb:Int->Nat) (own:Nat->Option Own) (s:Sy) (w:World) (h:SysAt w sb gb nb pb mb n cv D cbs tb own s) (hy:TellY s) (nd:cbs.length<=16)
 (h0:w.cell? ⟨ob,0,none⟩=some (.pointer (some ⟨sb,0,none⟩))) :
 Calls Tryz.prog 15 #[.pointer (some ⟨ob,0,none⟩)] w (StP s w):=by
 have en:Below w.heap.size w (w.alloc (.cells #[.slice none 0 0,.slice none 0 0,.slice none 0 0,.slice none 0 0,.slice none 0 0] 44)):=(Below.refl _ w).alloc (Nat.le_refl _) _;have rQ:=Jg sb gb nb pb mb n cv D cbs tb own s _ (h.below en) hy nd;have aJ:=heap_alloc_new w (.cells #[.slice none 0 0,.slice none 0 0,.slice none 0 0,.slice none 0 0,.slice none 0 0] 44);have hz:(w.alloc (.cells #[.slice none 0 0,.slice none 0 0,.slice none 0 0,.slice none 0 0,.slice none 0 0] 44)).heap.size=w.heap.size+1:=by simp
 have c0:=c2a (.cells #[.slice none 0 0,.slice none 0 0,.slice none 0 0,.slice none 0 0,.slice none 0 0] 44) h0;unfold OfP at rQ;rw[hz] at rQ;have lF:=lH en;have HX:=lH aJ;unfold StP;clear h hy nd en aJ hz h0;go_enter Tryz.func15,Tryz.ntmps15;go_wp2_with fail
 refine rQ.mono ?_;rintro e w1 ⟨vs,rfl,hR,hb⟩;have ab:Below (w.alloc (.cells #[.slice none 0 0,.slice none 0 0,.slice none 0 0,.slice none 0 0,.slice none 0 0] 44)).heap.size (w.alloc (.cells #[.slice none 0 0,.slice none 0 0,.slice none 0 0,.slice none 0 0,.slice none 0 0] 44)) w1:=by rw[World.size_alloc];exact hb
 obtain⟨⟨b0,b1,b2,b3,b4⟩,bf,bp⟩:=ct ((ab.block w.heap.size (by simp)).trans HX.out);have bf0:=bf 0;have bf1:=bf 1;have bf2:=bf 2;have bf3:=bf 3;have bf4:=bf 4;obtain⟨fl,P,CU,-⟩:=hR.forms;obtain⟨a0,n0,m0,s0⟩:=yt hR.tags;obtain⟨a1,n1,m1,s1⟩:=yt CU;obtain⟨a2,n2,m2,s2⟩:=yt hR.tasks;obtain⟨a3,n3,m3,s3⟩:=yt hR.lefts;obtain⟨a4,n4,m4,s4⟩:=yt hR.phases;have Lv:=lH (And.intro s0 (And.intro s1 (And.intro s2 (And.intro s3 s4))));have L4:=lH bp;have HR:=lH hR;have HB:=lH (lF.out.trans (ab.mono lF.out.size));clear bf bp hR hb ab CU;rw[s0,s1,s2,s3,s4];clear s0 s1 s2 s3 s4;go_wp2_with fail
 obtain⟨s0,s1,s2,s3,s4⟩:=Lv.out;obtain⟨⟨g0,g1,g2,g3,g4⟩,-,-⟩:=ct (L4.out (.slice a0 n0 m0) (.slice a1 n1 m1) (.slice a2 n2 m2) (.slice a3 n3 m3) (.slice a4 n4 m4));refine bodyPost_ret (v:=.agg #[.slice a0 n0 m0,.slice a1 n1 m1,.slice a2 n2 m2,.slice a3 n3 m3,.slice a4 n4 m4]) (by simp[results,Tryz.results15,go_sem,g0,g1,g2,g3,g4]) rfl ⟨vs,by rw[s0,s1,s2,s3,s4],HR.out.same (by simp) (fun j hj _=>?_) (by omega),?_⟩
 · have l9:j≠w.heap.size:=by omega
   rw[Below.heap_setCell _ _ _ _ (by simpa using l9),Below.heap_setCell _ _ _ _ (by simpa using l9),Below.heap_setCell _ _ _ _ (by simpa using l9),Below.heap_setCell _ _ _ _ (by simpa using l9),Below.heap_setCell _ _ _ _ (by simpa using l9)]
 · exact((((HB.out.setCell (by simp) _).setCell (by simp) _).setCell (by simp) _).setCell (by simp) _).setCell (by simp) _
theorem Xm (W:World) (a:Option Addr) (n c:Nat) (h:n<1\/16<n):Calls Tryz.prog 23 #[.slice a n c] W fun e w'=>e=.returned (.tuple #[.pointer none,I 1])/\W=w':=by
 rcases h with h | h
 · obtain rfl:n=0:=by omega
   go_enter Tryz.func23,Tryz.ntmps23;go_wp2
   go_ret2
   exact⟨rfl,rfl⟩
 · have g1:¬(n:Int)<1:=by omega
   have g2:16<(n:Int):=by omega
   go_enter Tryz.func23,Tryz.ntmps23;go_wp2
   go_ret2
   exact⟨rfl,rfl⟩
theorem VC (W:World) (tb off n c:Nat) (tags:List Int) (hn:n=tags.length) (h1:1<=n) (nd:n<=16) (hc:∀k,k<n->W.cell? ⟨tb,off+k,none⟩=some (I (tags.getD k 0))) (sI:tb<W.heap.size)
 (k0:Nat) (IA:k0<n) (sw:tags.getD k0 0≠0/\tags.getD k0 0≠1/\tags.getD k0 0≠2) (hg:∀k,k<k0->tags.getD k 0=0\/tags.getD k 0=1\/tags.getD k 0=2) :
 Calls Tryz.prog 23 #[.slice (some ⟨tb,off,none⟩) n c] W (fun e w'=>e=.returned (.tuple #[.pointer none,I 1])/\Below W.heap.size W w'):=by
 have g1:¬(n:Int)<1:=by omega
 have g2:¬16<(n:Int):=by omega
 have HC:=lH hc;have HG:=lH hg;have HN:=lH hn;have Ew:=lH sw;clear hc hg hn sw;go_enter Tryz.func23,Tryz.ntmps23;go_wp2_with fail
 refine(bB _).mono ?_;rintro e w1 ⟨rfl,Bd,aI,ab⟩;go_wp2_with fail
 refine(Qy _).mono ?_;rintro e w2 ⟨rfl,iA,et,ar⟩;have lA:=run_makeMap (P:=Tryz.prog) 117 w2;have ew:=lH (ab.trans (ar.mono ab.size));have oO:=lH (Bd.same (ar.block _ (by omega)));have iy:=lH iA;have nc:=lH aI;have Ch:=lH et;clear Bd iA ab ar aI et;obtain⟨i0,hi,eG,aI,et⟩:=info_parts Xw;have ix:bh W ((w2.alloc (.map #[] 0)).alloc (.cells (xJ W.heap.size (w1.heap.size+1) w2.heap.size) 122)) (w2.heap.size+1) tags 0:=by
  have hz:=nc.out;have et:=Ch.out;obtain⟨own,h1,h2⟩:=dY oO.out iy.out ⟨by omega,by omega⟩;refine⟨own,_,_,_,_,_,_,_,_,_,h1,trivial,(ew.out.alloc ew.out.size _).alloc (by have:=ew.out.size;simp;omega) _,fun k hk=>?_⟩;have:=h2 k hk;omega
 have lL:=lH ix;unfold xJ at lL;clear ix;obtain⟨sb,rD⟩:∃x,Hid (w2.heap.size+1=x):=⟨_,lH rfl⟩
 rw[rD.out] at lL;go_wp2_with fail
 rw[rD.out];go_loopw [24] (fun x wr=>∃k:Nat,k<=k0/\x=I k/\Hid (bh W wr sb tags k)) (fun x _=>n-(intOf x).toNat)
 case atStart=>exact⟨0,Nat.zero_le _,rfl,lL⟩
 case round=>
  obtain⟨k,hk,rfl,HR⟩:=hrel;by_cases tH:k<k0
  · have aS:k<n:=by omega
    obtain⟨own,gb,nb,pb,mb,m,cv,D,cbs,tbf,hS,iI,hB,hO⟩:=HR.out;have ap:=(hB.cell (p:=⟨tb,off+k,none⟩) sI).trans (HC.out k aS)
    have lC:=HG.out k tH;have aZ:=bw (tags.getD k 0) 0 wr lC (by omega);obtain⟨tg,nJ⟩:∃x,tags.getD k 0=x:=⟨_,rfl⟩
    rw[nJ] at ap aZ;have ET:=lH nJ;have HS:=lH hS;have HB:=lH hB;have HO:=lH hO;have Ri:=lH iI;have iY:(k:Int)<(n:Int):=by omega
    have aX:0<=(k:Int):=by omega
    clear hS hB hO lC nJ iI HR;go_wp2_with fail
    refine aZ.mono ?_;rintro e w3 ⟨cb,F,rfl,tZ,aK,Hm⟩;have nY:=(HS.out.below aK).head;have oZ:=(HS.out.below aK).live 0;have mT:=(HS.out.below aK).lt sb (by rw[HS.out.osb];simp);have aL:=(HS.out.below aK).row;have iP:cv.ownBlock≠some sb:=fun e=>by have:=HS.out.rown sb e;rw[HS.out.osb] at this;cases this
    have nr:cbs.length=k:=by rw[HS.out.num];simp;rw[<- HN.out];omega
    rw[nr] at aL;have rB:=lH nr;have pI:=lH tZ;have AP:=lH aK;have Mb:=lH Hm;clear tZ aK Hm nr;go_wp2_with (at_builtin;refine wpList_append_lies _ rfl _ _ 118 rfl 0 123 i0 (.pointer none) 1 8 Tryz.underlying118 hi eG aI et rfl (by decide) cv k (ql cbs) rfl (aL.alloc _) ⟨w3.heap.size,0,none⟩ 1 1 [.pointer (some ⟨cb,0,none⟩)] rfl rfl (World.news_of_block (cs:=#[.pointer (some ⟨cb,0,none⟩)]) (t:=123) (fr:=(0,0)) (heap_alloc_new w3 _)) (by simp[Value.oneCell']) (by omega) (by unfold maxLen;omega) (by omega) (by simp) (w3.heap.size+1) (by simp) ?_;intro g cap w4 aV aq eW ln;have tM:=aq.cell (c2a (.cells #[.pointer (some ⟨cb,0,none⟩)] 123) nY) (fun e=>iP e.symm);have tA:=uB oZ mT aq iP)
    have mc:=lH (ff HS.out HB.out HO.out AP.out pI.out Mb.out aq aV eW rB.out (by rw[<- HN.out];exact aS) ET.out);clear aV aq eW ln tM tA nY oZ mT aL iP;go_roundw
    case rel=>exact⟨k+1,tH,by go_num,mc⟩
    case measure=>simp[intOf];omega
  · obtain rfl:k=k0:=by omega
    obtain⟨own,gb,nb,pb,mb,m,cv,D,cbs,tbf,hS,iI,hB,hO⟩:=HR.out;have ap:=(hB.cell (p:=⟨tb,off+k,none⟩) sI).trans (HC.out k IA)
    obtain⟨tg,nJ⟩:∃x,tags.getD k 0=x:=⟨_,rfl⟩
    have i8:=Ew.out;rw[nJ] at ap i8;have aZ:=Ud tg 0 wr i8.1 i8.2.1 i8.2.2;have HB:=lH hB;have iY:(k:Int)<(n:Int):=by omega
    have aX:0<=(k:Int):=by omega
    clear hS hB hO nJ iI HR i8;go_wp2_with fail
    refine aZ.mono ?_;rintro e w3 ⟨rfl,rfl⟩;go_wp2_with fail
    go_ret2
    exact⟨rfl,HB.out⟩
def kK (W:World) (ob wb sb:Nat) (s:Sy) (m:Nat) (cbs:List Nat) (L:Int->Option Tr) (own:Nat->Option Own) (ow:Nat->Option OwnW):Prop:=
 W.heap[ob]? = some (.cells #[.pointer (some ⟨sb,0,none⟩),.pointer (some ⟨wb,0,none⟩)] 88 (0,0))/\VD W wb sb s m cbs L own ow/\own ob=none/\ow ob=none
theorem kK.cells {W:World} {ob wb sb:Nat} {s:Sy} {m:Nat} {cbs:List Nat} {L:Int->Option Tr} {own:Nat->Option Own} {ow:Nat->Option OwnW} (h:kK W ob wb sb s m cbs L own ow) :
 W.cell? ⟨ob,0,none⟩=some (.pointer (some ⟨sb,0,none⟩))/\W.cell? ⟨ob,1,none⟩=some (.pointer (some ⟨wb,0,none⟩)):=by
 have hh:=h.1;exact⟨by simp only[World.cell?,hh];rfl,by simp only[World.cell?,hh];rfl⟩
def Jv (W:World) (tags:List Int) (e:Ending) (w':World):Prop:=
 ∃(ob wb sb:Nat) (cbs:List Nat) (own:Nat->Option Own) (ow:Nat->Option OwnW),e=.returned (.tuple #[.pointer (some ⟨ob,0,none⟩),I 0])/\kK w' ob wb sb (xX tags) 0 cbs gH own ow/\W.heap.size<=ob /\
  Below W.heap.size W w'/\∀k,(own k≠none\/ow k≠none)->W.heap.size<=k
theorem KI (W:World) (tb off n c:Nat) (tags:List Int) (hn:n=tags.length) (h1:1<=n) (nd:n<=16) (hc:∀k,k<n->W.cell? ⟨tb,off+k,none⟩=some (I (tags.getD k 0))) (sI:tb<W.heap.size)
 (hg:∀k,k<n->tags.getD k 0=0\/tags.getD k 0=1\/tags.getD k 0=2) :
 Calls Tryz.prog 11 #[.slice (some ⟨tb,off,none⟩) n c] W (Jv W tags):=by
 have Dh:=VB W tb off n c tags hn h1 nd hc sI hg;clear hn h1 nd hc sI hg;go_enter Tryz.func11,Tryz.ntmps11;go_wp2_with fail
 refine Dh.mono ?_;rintro e w1 ⟨sb,own,rfl,hS,hB,hO⟩;obtain⟨gb,nb,pb,mb,m,cv,D,cbs,tbf,hS⟩:=hS;have PW:=Vs sb cbs w1;have HS:=lH hS;have HB:=lH hB;have HO:=lH hO;clear hS hB hO Dh;go_wp2_with fail
 refine PW.mono ?_;rintro e w2 ⟨wb,mb2,ow,rfl,hW,ib,O7⟩;have HW:=lH hW;have ew:=lH ib;have Cd:=lH O7;clear hW ib O7 PW;go_wp2_with fail
 go_ret2
 have hz:=HB.out.size;have et:=ew.out.size;have iA:=HS.out.below ew.out;refine⟨w2.heap.size,wb,sb,cbs,own,ow,rfl,⟨heap_alloc_new _ _,⟨⟨gb,nb,pb,mb,m,cv,D,tbf,iA.below ((Below.refl _ _).alloc (Nat.le_refl _) _)⟩,⟨mb2,0,_,_,_,_,HW.out.below ((Below.refl _ _).alloc (Nat.le_refl _) _)⟩,fun k hk=>?_⟩,?_,?_⟩,by omega,(HB.out.trans (ew.out.mono hz)).alloc (by omega) _,fun k hk=>?_⟩
 · by_cases e:own k=none
   · exact e
   · have a:=HS.out.lt k e;have b:=Cd.out k hk;omega
 · by_cases e:own w2.heap.size=none
   · exact e
   · have a:=iA.lt _ e;omega
 · by_cases e:ow w2.heap.size=none
   · exact e
   · have a:=HW.out.lt _ e;omega
 · rcases hk with hk | hk
   · exact HO.out k hk
   · have:=Cd.out k hk;omega
theorem ZF (W:World) (a:Option Addr) (n c:Nat) (hs:Calls Tryz.prog 23 #[.slice a n c] W fun e w'=>e=.returned (.tuple #[.pointer none,I 1])/\Below W.heap.size W w') :
 Calls Tryz.prog 11 #[.slice a n c] W fun e w'=>e=.returned (.tuple #[.pointer none,I 1])/\Below W.heap.size W w':=by
 go_enter Tryz.func11,Tryz.ntmps11;go_wp2_with fail
 refine hs.mono ?_;rintro e w1 ⟨rfl,hB⟩;have HB:=lH hB;clear hB hs;go_wp2_with fail
 go_ret2
 exact⟨rfl,HB.out⟩
end
def Jp (W:World) (sb b g i n c cb:Nat) (t:Tk):Prop:=
 (W.cell? ⟨sb,0,none⟩=some (.slice (some ⟨g,0,none⟩) n c)/\W.cell? ⟨g,i,none⟩=some (.pointer (some ⟨cb,0,none⟩))) /\
 W.cell? ⟨b,0,none⟩=some (I t.id)/\W.cell? ⟨b,1,none⟩=some (I t.w)/\W.cell? ⟨b,3,none⟩=some (I i)/\W.cell? ⟨b,6,none⟩=some (I t.lag)
theorem Yi (sb gb nb pb mb n:Nat) (cv:Value) (D:DataW Unit) (cbs:List Nat) (tb:Int->Nat) (own:Nat->Option Own) (s:Sy) (id act:Int) (t:Tk) (x:Bool) (xs:List G16) (i:Nat) (W:World) (h:SysAt W sb gb nb pb mb n cv D cbs tb own s)
 (ht:s.tasks id=some t) (hL:zq s.gs t.group xs) (aU:xs.any (zO s)=false) (hi:t.core=(i:Int)) (eB:i<cbs.length) (hf:xT s) :
 Calls Tryz.prog 104 #[.pointer (some ⟨sb,0,none⟩),.pointer (some ⟨tb id,0,none⟩),I act,.bool x] W fun e w'=>e=.returned (I (zX s id t false i act x).1) /\
  YP sb gb nb pb mb n cv D cbs tb own (zX s id t false i act x).2 W w':=by
 obtain⟨hT,eP⟩:=h.task id t ht;have il:=jQ sb gb nb pb mb n cv D cbs tb own s (tb id) t xs W h hT hL;rw[aU] at il;obtain⟨g,c,aQ⟩:=h.form (by omega);have A3:=lH aQ;have HS:=lH h;have HT:=lH ht;have HI:=lH hi;have HF:=lH hf;have pN:=lH eP;have oa:=lH eB;obtain⟨r,hr⟩:∃r,zg s.cores[i]! t.id t.w t.lag x=r:=⟨_,rfl⟩
 obtain⟨res,am⟩:∃res,zX s id t false i act x=res:=⟨_,rfl⟩
 have OY:res=if r.1=0 then(0,setTk (zN s i r.2) id (stT t (nxt t.state act).1)) else(r.1,zN s i r.2):=by rw[<- am];unfold zX;rw[hr];simp
 have GQ:=lH OY;rw[am];obtain⟨b,hb⟩:∃b,tb id=b:=⟨_,rfl⟩
 rw[hb] at il⊢;have ou:=lH hb;clear h ht hL aU hT eP aQ hi hf OY am hb;go_enter Tryz.func104,Tryz.ntmps104;go_wp2_with fail
 refine il.mono ?_;rintro e w1 ⟨rfl,ab⟩;have eu:=HS.out.below ab;have hE:Jp w1 sb (tb id) g i cbs.length c cbs[i]! t:=by
  have aF:=(eu.task id t HT.out).1;have rH:=aF.core;rw[HI.out] at rH;refine⟨⟨eu.head.trans (by rw[A3.out]),?_⟩,aF.id,aF.w,rH,aF.lag⟩;have:=A3.out;subst this;exact eu.coreCell i eB
 have lO:=eu.core i eB;have og:=HF.out i (by rw[<- eu.num];exact eB);have iL:=lH eu;have ef:=lH ab;obtain⟨cb,mu⟩:∃cb,cbs[i]! = cb:=⟨_,rfl⟩
 rw[mu] at hE lO;have rB:=lH mu;have r9:∀W',W'.heap=w1.heap->Calls Tryz.prog 110 #[.pointer (some ⟨cb,0,none⟩),I t.id,I t.w,I t.lag,.bool x] W' (xC cb (fun k=>own k=some (.core i)) r W'):=fun W' m8=>by
  rw[<- hr];exact gQ cb _ s.cores[i]! t.id t.w t.lag x W' (lO.same (by rw[m8];exact Nat.le_refl _) (fun k _=>by rw[m8])) og
 clear il lO og eu ab mu hr;obtain⟨m,hm⟩:∃m,cbs.length=m:=⟨_,rfl⟩
 rw[hm] at hE eB;have HM:=lH hm;have DV:(i:Int)<(m:Int):=by omega
 have sf:0<=(i:Int):=by omega
 rw[ou.out] at hE;obtain⟨⟨k1,k2⟩,k3,k4,k5,k6⟩:=hE;have HE:Hid (∀W',(∀j,own j≠some (.core i)->j<w1.heap.size->W'.heap[j]? = w1.heap[j]?)->Jp W' sb b g i m c cb t):=lH (fun W' m8=>by
  have hg:own g=some .row:=iL.out.rown g (by rw[A3.out];rfl);have e:∀j x,own j=some x->x≠.core i->W'.heap[j]? = w1.heap[j]?:=fun j x hj hx=>m8 j (by rw[hj];simpa using hx) (iL.out.lt j (by rw[hj];simp));have e1:=e sb _ iL.out.osb (by simp);have e2:=e g _ hg (by simp);have e3:=e b _ (by rw[<- ou.out];exact pN.out) (by simp);exact⟨⟨(World.cell?_of_block (a:=⟨sb,0,none⟩) e1).trans k1,(World.cell?_of_block (a:=⟨g,i,none⟩) e2).trans k2⟩,(World.cell?_of_block (a:=⟨b,0,none⟩) e3).trans k3,(World.cell?_of_block (a:=⟨b,1,none⟩) e3).trans k4,(World.cell?_of_block (a:=⟨b,3,none⟩) e3).trans k5,(World.cell?_of_block (a:=⟨b,6,none⟩) e3).trans k6⟩)
 clear hm;go_wp2_with fail
 go_region_held3 (fun W2=>(W2.cell? ⟨sb,0,none⟩=some (.slice (some ⟨g,0,none⟩) m c)/\W2.cell? ⟨g,i,none⟩=some (.pointer (some ⟨cb,0,none⟩)))/\W2.cell? ⟨b,0,none⟩=some (I t.id)/\W2.cell? ⟨b,1,none⟩=some (I t.w)/\W2.cell? ⟨b,3,none⟩=some (I i)/\W2.cell? ⟨b,6,none⟩=some (I t.lag)) (first | exact⟨⟨k1,k2⟩,k3,k4,k5,k6⟩ | exact AU) (first | (go_at_call 110;refine(r9 w1.drew rfl).mono ?_;rintro e w9 ⟨rfl,AT⟩;have AU:=HE.out w9 (fun j hj iK=>AT.choose_spec.2.1.block j iK hj)) | fail)
 obtain⟨F',c1,c2,c3⟩:=AT;have tP:Touch (fun k=>own k=some (.core i)) w1 w9:=((Touch.refl _ w1).drew).self c2;obtain⟨own',eo,Ec⟩:=iL.out.setCore (i:=i) (by rw[HM.out];exact eB) (by rw[rB.out];exact c1) tP (fun k hk=>c3 k hk);have ms:Hid (SysAt w9 sb gb nb pb mb n cv D cbs tb own' (zN s i r.2)):=lH eo;have Ge:=lH Ec;have AS:=lH tP;clear AU c1 c2 c3 tP eo Ec r9 k1 k2 k3 k4 k5 k6;obtain⟨r1,rc⟩:=r;simp only at ms GQ⊢;by_cases hr:r1=0
 · subst hr;have iE:=ms.out.task id t HT.out;rw[ou.out] at iE;have Cl:=vB b t act w9 iE.1;have od:=lH iE;clear iE;go_wp2_with fail
   refine Cl.mono ?_;rintro e w10 ⟨rfl,rfl⟩;go_wp2_with fail
   go_ret
   rw[if_pos trivial] at GQ;rw[GQ.out];refine⟨rfl,own',ms.out.setTask HT.out (by rw[ou.out];exact od.out.1.setState _) (by rw[ou.out];exact zG _ _ _ _),fun k hk=>Ge.out k (Nat.lt_of_lt_of_le hk ef.out.size),?_⟩;have e1:Touch (fun k=>own k≠none) W w9:=(Touch.of_below ef.out).self (AS.out.wider (fun k hk=>by rw[hk];simp));exact e1.self ((zG w9 b 4 (I (nxt t.state act).1)).wider (fun k hk=>by rw[hk,<- ou.out,pN.out];simp))
 · go_wp2_with fail
   go_ret
   rw[if_neg hr] at GQ;rw[GQ.out];exact⟨rfl,own',ms.out,fun k hk=>Ge.out k (Nat.lt_of_lt_of_le hk ef.out.size),(Touch.of_below ef.out).self (AS.out.wider (fun k hk=>by rw[hk];simp))⟩
theorem qy (sb gb nb pb mb n:Nat) (cv:Value) (D:DataW Unit) (cbs:List Nat) (tb:Int->Nat) (own:Nat->Option Own) (s:Sy) (id act:Int) (t:Tk) (x:Bool) (xs:List G16) (i:Nat) (W:World) (h:SysAt W sb gb nb pb mb n cv D cbs tb own s)
 (ht:s.tasks id=some t) (hL:zq s.gs t.group xs) (hi:t.core=(i:Int)) (eB:i<cbs.length) (hf:xT s) :
 Calls Tryz.prog 104 #[.pointer (some ⟨sb,0,none⟩),.pointer (some ⟨tb id,0,none⟩),I act,.bool x] W fun e w'=>e=.returned (I (zX s id t (xs.any (zO s)) i act x).1) /\
  YP sb gb nb pb mb n cv D cbs tb own (zX s id t (xs.any (zO s)) i act x).2 W w':=by
 cases hh:xs.any (zO s) with
 | true=>exact Yj sb gb nb pb mb n cv D cbs tb own s id act t x xs W h ht hL hh
 | false=>exact Yi sb gb nb pb mb n cv D cbs tb own s id act t x xs i W h ht hL hh hi eB hf
def coT (t:Tk) (x:Int):Tk:=⟨t.id,t.w,t.group,x,t.state,t.mask,t.lag⟩
theorem Xc (sb gb nb pb mb n:Nat) (cv:Value) (D:DataW Unit) (cbs:List Nat) (tb:Int->Nat) (own:Nat->Option Own) (s:Sy) (id:Int) (W:World) (h:SysAt W sb gb nb pb mb n cv D cbs tb own s)
 (h1:-9223372036854775808<=id) (h2:id<=9223372036854775807) (ht:s.tasks id=none) :
 Calls Tryz.prog 48 #[.pointer (some ⟨sb,0,none⟩),I id] W fun e w'=>e=.returned (I 2)/\W=w':=by
 have ai:=qz sb gb nb pb mb n cv D cbs tb own s id 1 W h h1 h2 ht;clear h ht;go_enter Tryz.func48,Tryz.ntmps48;go_wp2_with fail
 refine ai.mono ?_;rintro e w' ⟨rfl,rfl⟩;go_wp2_with fail
 go_ret
 exact⟨rfl,rfl⟩
theorem Vq (sb gb nb pb mb n:Nat) (cv:Value) (D:DataW Unit) (cbs:List Nat) (tb:Int->Nat) (own:Nat->Option Own) (s:Sy) (id:Int) (t:Tk) (W:World) (h:SysAt W sb gb nb pb mb n cv D cbs tb own s)
 (h1:-9223372036854775808<=id) (h2:id<=9223372036854775807) (ht:s.tasks id=some t) (he:¬(nxt t.state 1).2=0) :
 Calls Tryz.prog 48 #[.pointer (some ⟨sb,0,none⟩),I id] W fun e w'=>e=.returned (I (nxt t.state 1).2)/\W=w':=by
 have ai:=wP sb gb nb pb mb n cv D cbs tb own s id 1 t W h h1 h2 ht;generalize(nxt t.state 1).2=y at he ai⊢;clear h ht;go_enter Tryz.func48,Tryz.ntmps48;go_wp2_with fail
 refine ai.mono ?_;rintro e w' ⟨rfl,rfl⟩;go_wp2_with fail
 go_ret
 exact⟨rfl,rfl⟩
theorem Q1 (sb gb nb pb mb n:Nat) (cv:Value) (D:DataW Unit) (cbs:List Nat) (tb:Int->Nat) (own:Nat->Option Own) (s:Sy) (id:Int) (t:Tk) (xs:List G16) (i:Nat) (W:World) (h:SysAt W sb gb nb pb mb n cv D cbs tb own s)
 (h1:-9223372036854775808<=id) (h2:id<=9223372036854775807) (ht:s.tasks id=some t) (he:(nxt t.state 1).2=0) (hm:0<=t.mask/\t.mask<65536) (hf:xT s) (h0:0<cbs.length) (nd:cbs.length<=16) (hL:zq s.gs t.group xs)
 (hi:(zD (zj s) t.mask).1=(i:Int)) (eB:i<cbs.length) (hr:(zX (setTk s id (coT t i)) id (coT t i) (xs.any (zO s)) i 1 false).1=0) :
 Calls Tryz.prog 48 #[.pointer (some ⟨sb,0,none⟩),I id] W fun e w'=>e=.returned (I 0) /\
  YP sb gb nb pb mb n cv D cbs tb own (zX (setTk s id (coT t i)) id (coT t i) (xs.any (zO s)) i 1 false).2 W w':=by
 have ai:=wP sb gb nb pb mb n cv D cbs tb own s id 1 t W h h1 h2 ht;rw[he] at ai;obtain⟨hT,eP⟩:=h.task id t ht;obtain⟨b,hb⟩:∃b,tb id=b:=⟨_,rfl⟩
 rw[hb] at ai hT eP;have Hx:=World.block_lt_of_cell? _ _ hT.id;have q0:=hT.id;have q1:=hT.w;have q2:=hT.group;have q3:=hT.core;have q4:=hT.state;have q5:=hT.mask;have q6:=hT.lag;have ou:=lH hb;have HS:=lH h;have HT:=lH ht;have HF:=lH hf;have pN:=lH eP;have HL:=lH hL;have HI:=lH hi;have HR:=lH hr;have HM:=lH hm;have H0:=lH (And.intro h0 nd);obtain⟨res,am⟩:∃res,(zX (setTk s id (coT t i)) id (coT t i) (xs.any (zO s)) i 1 false).2=res:=⟨_,rfl⟩
 rw[am];have aA:=lH am;clear h ht hb eP hf hL hi hr hm h0 nd am he;go_enter Tryz.func48,Tryz.ntmps48;go_wp2_with fail
 refine ai.mono ?_;rintro e w' ⟨rfl,rfl⟩;clear ai;go_wp2_with fail
 have en:Below W.heap.size W (W.alloc (.cells #[I t.id,I t.w,I t.group,I t.core,I t.state,.int .u16 t.mask,I t.lag] 60)):=(Below.refl _ _).alloc (Nat.le_refl _) _;have ax:=kF sb gb nb pb mb n cv D cbs tb own s t.mask _ (HS.out.below en) HF.out H0.out.1 H0.out.2 HM.out;rw[HI.out] at ax;refine ax.mono ?_;rintro e w1 ⟨rfl,ab⟩;have nS:Below W.heap.size W w1:=en.trans (ab.mono en.size)
 have eu:=HS.out.below nS;have aF:=(eu.task id t HT.out).1;rw[ou.out] at aF;have c3:=aF.core;have f3:=aF.live 3;have iA:SysAt (w1.setCell ⟨b,3,none⟩ (I i)) sb gb nb pb mb n cv D cbs tb own (setTk s id (coT t i)):=eu.setTask HT.out (by rw[ou.out];exact aF.setCore i) (by rw[ou.out];exact zG _ _ _ _);have aj:=qy sb gb nb pb mb n cv D cbs tb own (setTk s id (coT t i)) id 1 (coT t i) false xs i _ iA (by simp[setTk]) HL.out rfl eB HF.out;rw[show xs.any (zO (setTk s id (coT t i)))=xs.any (zO s) from rfl,HR.out,aA.out,ou.out] at aj;have sk:=lH nS;clear ax ab eu aF iA en nS;go_wp2_with fail
 refine aj.mono ?_;rintro e w2 ⟨rfl,own',rZ,IU,Ai⟩;go_wp2_with fail
 go_ret
 have e1:Touch (fun k=>own k≠none) W (w1.setCell ⟨b,3,none⟩ (I i)):=(Touch.of_below sk.out).self ((zG w1 b 3 (I i)).wider (fun k hk=>by rw[hk,pN.out];simp));exact⟨rfl,own',rZ,fun k hk=>IU k (Nat.lt_of_lt_of_le hk e1.size),e1.self Ai⟩
end Go.Proofs.YtoiajjobecinpaaGreat
