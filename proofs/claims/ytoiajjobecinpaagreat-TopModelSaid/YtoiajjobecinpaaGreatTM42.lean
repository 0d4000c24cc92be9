/- The document's All: all tasks, with what is owed of those that are ready. TopModel: what is told on  -/
import Derived.Test.YtoiajjobecinpaaGreatTM38
set_option maxHeartbeats 4000000
set_option maxRecDepth 100000
namespace Go.Proofs.YtoiajjobecinpaaGreat
open Go.RowKit Go.Shelf Go.Lib Go.Proofs
set_option linter.unusedVariables false
set_option linter.unusedSimpArgs false
section
attribute [local go_sem] Oper.semAt_some
def xn (r:RSy) (t:Tk):Tk:=if t.state=2/\0<=qk (zw r.cores[t.core.toNat]!.2) t.id then wi t (zw r.cores[t.core.toNat]!.2)[(qk (zw r.cores[t.core.toNat]!.2) t.id).toNat]!.lag else t
def wE (r:RSy) (k:Nat):List Tk:=(r.ts.take k).map (xn r)++r.ts.drop k
theorem Vz (r:RSy) (k:Nat) (hk:k<=r.ts.length):(wE r k).length=r.ts.length:=by
 unfold wE;rw[List.length_append,List.length_map,List.length_take,List.length_drop];omega
theorem QB (r:RSy) (k:Nat) (hk:k<r.ts.length):(wE r k)[k]? = some r.ts[k]:=by
 unfold wE;rw[List.getElem?_append_right (by simp;omega)];have hl:((r.ts.take k).map (xn r)).length=k:=by simp;omega
 rw[hl,List.getElem?_drop,Nat.sub_self,Nat.add_zero,List.getElem?_eq_getElem hk]
theorem Xj (r:RSy) (k:Nat) (hk:k<r.ts.length):wE r (k+1)=(wE r k).set k (xn r r.ts[k]):=by
 unfold wE;have hl:((r.ts.take k).map (xn r)).length=k:=by simp;omega
 rw[List.set_append_right _ _ (by rw[hl];exact Nat.le_refl _),hl,Nat.sub_self,List.take_succ_eq_append_getElem hk,List.map_append,List.append_assoc];congr 1
 rw[List.drop_eq_getElem_cons hk,List.set_cons_zero];rfl
def AlS (rb g gi k ci qb:Nat) (cv tv:Value) (W:World):Prop:=W.cell? ⟨rb,0,none⟩=some cv/\W.cell? ⟨g,k*7+3,none⟩=some (I ci)/\W.cell? ⟨gi,ci,none⟩=some (.pointer (some ⟨qb,0,none⟩))
theorem UU (rb:Nat) (B:RBk) (own:Nat->Option ROwn) (r:RSy) (W:World) (h:RAt W rb B own r) (aT:r.ts.length<=64)
 (BS:∀t∈r.ts,t.state=2->∃i:Nat,t.core=(i:Int)/\i<r.cores.length/\r.cores[i]!.2.ps.length<=64/\∀p∈r.cores[i]!.2.ps,IntKind.i64.wrap (r.cores[i]!.2.base-p.v)=r.cores[i]!.2.base-p.v) :
 Calls Tryz.prog 16 #[.pointer (some ⟨rb,0,none⟩)] W fun e w'=>∃v,e=.returned v/\w'.ownsRow W.heap.size 62 7 v r.ts.length (zu (r.ts.map (xn r)))/\Below W.heap.size W w':=by
 obtain⟨ta,tc,sj,-⟩:=h.tasks;obtain⟨n,hn⟩:∃n,r.ts.length=n:=⟨_,rfl⟩
 have c1:=h.c1;rw[sj,hn] at c1;have aa:=h.trow;rw[sj,hn] at aa;have nH:=qF aa (wQ r.ts) n (Nat.le_refl _);rw[List.take_of_length_le (by rw[uo,hn];exact Nat.le_refl _)] at nH;obtain⟨i0,hi,eG,aI,et⟩:=info_parts cF;have ig:(W.alloc (.cells #[] 62)).ownsRow W.heap.size 62 7 (.slice (some ⟨W.heap.size,0,none⟩) 0 0) 0 []:=
  ⟨rfl,.inr ⟨W.heap.size,0,#[],rfl,Nat.le_refl _,by show(W.heap.push _)[W.heap.size]? = _;simp,Nat.le_refl _,by unfold maxLen;omega,rfl,rfl⟩⟩
 have en:Below W.heap.size W (W.alloc (.cells #[] 62)):=(Below.refl _ _).alloc (Nat.le_refl _) _;have Em:=nH.below en;have c1':=(en.cell (p:=⟨rb,1,none⟩) (h.lt rb (by rw[h.osys];simp))).trans c1;have lF:=lH en;have AR:=lH Em;have OJ:=lH ig;have RP:=lH BS;have HN:=lH hn;have HR:=lH h;have MO:n<=64:=by omega
 clear h BS hn sj aa nH Em ig en aT;go_enter Tryz.func16,Tryz.ntmps16;go_wp2_with (at_builtin;refine yK rfl _ _ _ rfl W.heap.size 62 i0 _ 7 56 Tryz.underlying46 hi eG aI et rfl (by decide) (.slice (some ⟨W.heap.size,0,none⟩) 0 0) 0 [] rfl OJ.out ta n tc _ rfl AR.out (by unfold maxLen;omega) (by omega) (by simp) n (by omega) (zu r.ts) (List.nil_append _) ?_;intro a1 q1 w1 ec el nk)
 have ef:Hid (Below W.heap.size W w1):=lH (lF.out.grown el (by simp) (fun j hj=>Nat.le_of_eq (Option.some.inj hj)));have CA:=lH ec;clear ec el nk lF AR OJ
 (try go_wp2_with fail)
 go_loopw [4] (fun x wr=>∃k:Nat,k<=n/\x=I k/\Hid (wr.ownsRow W.heap.size 62 7 (.slice a1 n q1) n (zu (wE r k))/\Below W.heap.size W wr)) (fun x _=>n-(intOf x).toNat)
 case atStart=>exact⟨0,Nat.zero_le _,rfl,lH ⟨CA.out,ef.out⟩⟩
 case round=>
  obtain⟨k,hk,rfl,HQ⟩:=hrel;have aX:0<=(k:Int):=by omega
  by_cases aS:k<n
  · have aw:k<r.ts.length:=by rw[HN.out];exact aS
    have Cn:(k:Int)<(n:Int):=by omega
    obtain⟨a9,c9,nK,ae⟩:=zH HQ.out.1;simp only[Value.slice.injEq,true_and] at nK;obtain⟨rfl,rfl⟩:=nK;have aE:=QB r k aw;have mr:=Xj r k aw;have tI:=Vz r k (by omega);rw[HN.out] at tI;have ev:=List.getElem_mem aw;obtain⟨t,ht⟩:∃t,r.ts[k]=t:=⟨_,rfl⟩
    rw[ht] at aE mr ev;have pT:∀f v,f<7->t.cells[f]? = some v->(zu (wE r k))[k*7+f]? = some v:=fun f v hf hv=>by
     rw[vz (wE r k) k f (by omega) hf];rw[<- hv];congr 1
     have:=List.getElem?_eq_some_iff.1 aE;rw[this.2]
    obtain⟨g,rfl,Ns,eL,t0⟩:=ae _ _ (pT 0 _ (by omega) rfl);have ik:∀f v,f<7->t.cells[f]? = some v->wr.cell? ⟨g,k*7+f,none⟩=some v:=fun f v hf hv=>by
     obtain⟨g',ic,-,-,h4⟩:=ae _ _ (pT f v hf hv);simp only[Option.some.injEq,Addr.mk.injEq,and_true] at ic;subst ic;exact h4
    rw[Nat.add_zero] at t0;have t3:=ik 3 _ (by omega) rfl;have t4:=ik 4 _ (by omega) rfl;have t6:=ik 6 _ (by omega) rfl;have sL:=lH aE;have tW:=lH mr;have me:=lH tI;have RC:=lH ev;have HG:=lH (And.intro Ns eL);clear ae aE mr tI ev ht pT ik Ns eL;by_cases h2:t.state=2
    · obtain⟨ci,lO,iI,lm,hw⟩:=RP.out t RC.out h2;have Ck:=HR.out.below HQ.out.2;obtain⟨ca,cc,aQ,mA⟩:=Ck.coreCell;obtain⟨gi,rfl,Iq,Nt,tC⟩:=mA ci iI;have c0:=Ck.c0;obtain⟨NC,AV⟩:∃y,r.cores.length=y:=⟨_,rfl⟩
      rw[aQ,AV] at c0;have hq:=Ck.q ci iI;obtain⟨l,hl⟩:∃y,r.cores[ci]!.2=y:=⟨_,rfl⟩
      rw[hl] at hq lm hw;generalize r.cores[ci]!.1=tag at hq;have rU:r.cores[t.core.toNat]!.2=l:=by rw[lO,Int.toNat_natCast];exact hl
      have Gg:=lH rU;have SE:0<=(ci:Int):=by omega
      have SH:(ci:Int)<(NC:Int):=by omega
      have aH:=fun W' (hb:Below wr.heap.size wr W')=>dT B.qbs[ci]! (B.qv ci) tag l W' (hq.below hb) lm hw;obtain⟨qb,na⟩:∃y,B.qbs[ci]! = y:=⟨_,rfl⟩
      rw[na] at tC aH;have eF:=Ck.lt rb (by rw[Ck.osys];simp);have Am:=lH aH;have h4:t.state=2:=h2;rw[lO] at t3;rw[h2] at t4;have F7:Hid (∀w,Below wr.heap.size wr w->AlS rb g gi k ci qb (.slice (some ⟨gi,0,none⟩) NC cc) (I 0) w):=lH (fun w hb=>⟨(hb.cell (p:=⟨rb,0,none⟩) eF).trans c0,(hb.cell (p:=⟨g,k*7+3,none⟩) HG.out.2).trans t3,(hb.cell (p:=⟨gi,ci,none⟩) Iq).trans tC⟩);have Rt:=lH h2;have Mj:=lH lm;clear Ck aQ mA AV hq hl aH na eF Iq Nt tC c0 iI hw lO rU h4 h2 t3 lm;obtain⟨cur,mB⟩:∃y,l.cur=y:=⟨_,rfl⟩
      rw[mB] at Am;clear mB;obtain⟨its,oY⟩:∃y,zw l=y:=⟨_,rfl⟩
      rw[oY] at Am;have OD:=lH oY;have Fx:its.length<=64:=by rw[<- oY];unfold zw;rw[List.length_map];exact Mj.out
      clear oY;go_upto_region 6 with fail
      go_cut [5] from 13 to 55 (fun s5 wc=>∃(b:Nat) (v:Value),s5=.pointer (some ⟨b,0,none⟩)/\Hid (Below wr.heap.size wr wc/\wc.heap[b]? = some (.cells #[I cur,v] 66 (0,0))/\wr.heap.size<=b/\FSl wc v its))
      case first=>
       have lr:=F7.out wr.drew (Below.refl _ wr).drew;refine zK (S:=AlS rb g gi k ci qb (.slice (some ⟨gi,0,none⟩) NC cc) (I 0)) (T:=[13]) (by kernel_rfl) ?_;refine wT 0 ?_;refine wT 1 ?_;refine wT 2 ?_;refine wT 3 ?_;refine wT 4 ?_;refine wT 5 ?_;refine wT 6 ?_;refine wT 7 ?_;refine wT 8 ?_;refine wT 9 ?_;refine wT 10 ?_;simp only[Act.put,aP,List.set];refine wZ (i:=11) (j:=12) (by kernel_rfl) rfl rfl (by kernel_rfl) ?_ ?_;case' refine_2=>
        intro K hK;go_simp
        have ab:Below wr.heap.size wr (wr.drew.alloc (.cells #[I 0,.slice none 0 0] 66)):=(Below.refl _ wr).drew.alloc (Nat.le_refl _) _;refine hK _ _ (F7.out _ ab) ?_;clear hK;refine ze (i:=11) (by kernel_rfl) rfl (by kernel_rfl) ?_;intro K hK;go_simp
        go_at_call 19
        refine(Am.out _ ab).mono ?_;rintro e w9 ⟨v9,rfl,iF,eQ⟩;have eN:w9.heap[wr.heap.size]? = some (.cells #[I 0,.slice none 0 0] 66 (0,0)):=(eQ.block wr.heap.size (by simp)).trans (heap_alloc_new wr.drew _)
        have ar:Below wr.heap.size wr w9:=ab.trans (eQ.mono ab.size)
        have eo:=F7.out w9 ar;have ir:wr.heap.size<=wr.heap.size:=Nat.le_refl _;refine hK _ _ eo ?_;clear hK ab eQ lr;have A4:Hid (FSl w9 v9 its):=lH (FSl.of iF);have MM:Hid (∀j,v9.ownBlock=some j->wr.heap.size+1<=j):=lH (fun j hj=>by have:=(iF.lt j hj).1;simp at this;omega);obtain⟨va,vc,Cs⟩:=A4.out.form;subst Cs;clear iF;have y0:w9.cell? ⟨wr.heap.size,0,none⟩=some (I 0):=by simp only[World.cell?,eN];rfl
        have y1:w9.cell? ⟨wr.heap.size,1,none⟩=some (.slice none 0 0):=by simp only[World.cell?,eN];rfl
        have f9:=zc eN;have f0:=f9 0;have f1:=f9 1;have ey:((w9.setCell ⟨wr.heap.size,0,none⟩ (I cur)).setCell ⟨wr.heap.size,1,none⟩ (.slice va its.length vc)).heap[wr.heap.size]? = some (.cells #[I cur,.slice va its.length vc] 66 (0,0)):=by simp[World.setCell,Array.getElem?_modify,eN]
        have aK:Below wr.heap.size wr ((w9.setCell ⟨wr.heap.size,0,none⟩ (I cur)).setCell ⟨wr.heap.size,1,none⟩ (.slice va its.length vc)):=(ar.setCell ir _).setCell ir _;have rm:FSl ((w9.setCell ⟨wr.heap.size,0,none⟩ (I cur)).setCell ⟨wr.heap.size,1,none⟩ (.slice va its.length vc)) (.slice va its.length vc) its:=A4.out.same (by simp[World.setCell]) (fun j hj=>by
         have:=MM.out j hj;rw[Below.heap_setCell _ _ _ _ (by simp;omega),Below.heap_setCell _ _ _ _ (by simp;omega)])
        refine zk (i:=13) (by kernel_rfl) rfl (by kernel_rfl) ?_;intro K hK;go_simp
        refine hK _ _ ?_;clear hK;generalize((w9.setCell ⟨wr.heap.size,0,none⟩ (I cur)).setCell ⟨wr.heap.size,1,none⟩ (.slice va its.length vc))=w5 at ey aK rm⊢;refine zy (by kernel_rfl) ?_ _;go_wp2_with fail
        go_meet
        case rel=>exact⟨wr.heap.size,_,rfl,lH ⟨aK,ey,ir,rm⟩⟩
       case' refine_1=>
        intro K hK;go_simp
        go_at_call 19
        refine(Am.out _ (Below.refl _ wr).drew).mono ?_;rintro e w8 ⟨v9,rfl,iF,eQ⟩;have ab:Below wr.heap.size wr w8:=(Below.refl _ wr).drew.trans eQ;refine hK _ _ (F7.out w8 ab) ?_;clear hK eQ lr;refine ze (i:=12) (by kernel_rfl) rfl (by kernel_rfl) ?_;intro K hK;go_simp
        have ar:Below wr.heap.size wr (w8.alloc (.cells #[I 0,.slice none 0 0] 66)):=ab.alloc ab.size _;have eN:(w8.alloc (.cells #[I 0,.slice none 0 0] 66)).heap[w8.heap.size]? = some (.cells #[I 0,.slice none 0 0] 66 (0,0)):=heap_alloc_new w8 _;have ir:wr.heap.size<=w8.heap.size:=ab.size;have EB:Hid (FSl w8 v9 its):=lH (FSl.of iF);have MM:Hid (∀j,v9.ownBlock=some j->j<w8.heap.size):=lH (fun j hj=>(iF.lt j hj).2);have A4:Hid (FSl (w8.alloc (.cells #[I 0,.slice none 0 0] 66)) v9 its):=lH (EB.out.alloc _);obtain⟨va,vc,Cs⟩:=EB.out.form;subst Cs;have eo:=F7.out _ ar;refine hK _ _ eo ?_;clear hK ab iF EB;generalize w8.alloc (.cells #[I 0,.slice none 0 0] 66)=w9 at ar eN eo A4⊢;have y0:w9.cell? ⟨w8.heap.size,0,none⟩=some (I 0):=by simp only[World.cell?,eN];rfl
        have y1:w9.cell? ⟨w8.heap.size,1,none⟩=some (.slice none 0 0):=by simp only[World.cell?,eN];rfl
        have f9:=zc eN;have f0:=f9 0;have f1:=f9 1;have ey:((w9.setCell ⟨w8.heap.size,0,none⟩ (I cur)).setCell ⟨w8.heap.size,1,none⟩ (.slice va its.length vc)).heap[w8.heap.size]? = some (.cells #[I cur,.slice va its.length vc] 66 (0,0)):=by simp[World.setCell,Array.getElem?_modify,eN]
        have aK:Below wr.heap.size wr ((w9.setCell ⟨w8.heap.size,0,none⟩ (I cur)).setCell ⟨w8.heap.size,1,none⟩ (.slice va its.length vc)):=(ar.setCell ir _).setCell ir _;have rm:FSl ((w9.setCell ⟨w8.heap.size,0,none⟩ (I cur)).setCell ⟨w8.heap.size,1,none⟩ (.slice va its.length vc)) (.slice va its.length vc) its:=A4.out.same (by simp[World.setCell]) (fun j hj=>by
         have:=MM.out j hj;rw[Below.heap_setCell _ _ _ _ (by simp;omega),Below.heap_setCell _ _ _ _ (by simp;omega)])
        refine zk (i:=13) (by kernel_rfl) rfl (by kernel_rfl) ?_;intro K hK;go_simp
        refine hK _ _ ?_;clear hK;generalize((w9.setCell ⟨w8.heap.size,0,none⟩ (I cur)).setCell ⟨w8.heap.size,1,none⟩ (.slice va its.length vc))=w5 at ey aK rm⊢;refine zy (by kernel_rfl) ?_ _;go_wp2_with fail
        go_meet
        case rel=>exact⟨w8.heap.size,_,rfl,lH ⟨aK,ey,ir,rm⟩⟩
      case rest=>
      obtain⟨b,v,rfl,HW⟩:=hcut;have ew:Hid (Below wr.heap.size wr wc):=lH HW.out.1;have ey:=HW.out.2.1;have A4:=lH HW.out.2.2.2;obtain⟨va,vc,Cs⟩:=A4.out.form;subst Cs;have y0:wc.cell? ⟨b,0,none⟩=some (I cur):=by simp only[World.cell?,ey];rfl
      have y1:wc.cell? ⟨b,1,none⟩=some (.slice va its.length vc):=by simp only[World.cell?,ey];rfl
      have u0:=(ew.out.cell (p:=⟨g,k*7,none⟩) HG.out.2).trans t0;have su:=UV cur va its.length vc its t.id wc.drew (A4.out.below (Below.refl _ wc).drew) rfl Fx;obtain⟨tid,FW⟩:∃y,t.id=y:=⟨_,rfl⟩
      rw[FW] at su u0;have Hc:=lH FW;have Ey:Hid (b<wc.heap.size):=lH (Array.getElem?_eq_some_iff.1 ey).1;clear HW ey Am F7 t0 t4 t6 FW;rcases vM its tid with⟨hp,-⟩ | ⟨j,hj,hp,-,-⟩
      · have mK:Hid (wE r (k+1)=wE r k):=lH (by
         rw[tW.out];have:xn r t=t:=by
          unfold xn;rw[Gg.out,OD.out,Hc.out,hp,if_neg (fun e=>by have:=e.2;omega)]
         rw[this];obtain⟨ah,he⟩:=List.getElem?_eq_some_iff.1 sL.out;rw[<- he];exact List.set_getElem_self ah)
        rw[hp] at su;clear hp;go_wp2_with fail
        go_still_tail 6,(by kernel_rfl)
        change wpList _ _ _ _ _ (World.drew _);go_wp2_with fail
        refine su.mono ?_;rintro e w7 ⟨rfl,sT⟩;have GM:Hid (Below wr.heap.size wr w7):=lH (ew.out.trans (((Below.refl _ wc).drew.trans sT).mono ew.out.size));have sM:Hid (w7.ownsRow W.heap.size 62 7 (.slice (some ⟨g,0,none⟩) n q1) n (zu (wE r (k+1)))/\Below W.heap.size W w7):=lH (by
         rw[mK.out];exact⟨zb HQ.out.1 (fun j hj=>GM.out.block j (HQ.out.1.lt j hj).2),HQ.out.2.trans (GM.out.mono HQ.out.2.size)⟩)
        clear HQ tW sL mK su sT u0 y0 y1;go_wp2_with fail
        (first | go_roundw | (refine⟨?_,?measure⟩;(repeat apply Exists.intro);refine⟨?rel,rfl⟩))
        case rel=>exact⟨k+1,aS,by go_num,sM⟩
        case measure=>simp[intOf];omega
      · rw[hp] at su;obtain⟨gv,rfl,gvl,-,-,v2⟩:=A4.out.cells j hj;obtain⟨lg,Cp⟩:∃y,its[j]!.lag=y:=⟨_,rfl⟩
        rw[Cp] at v2;have RZ:Hid (xn r t=wi t lg):=lH (by
         unfold xn;rw[Gg.out,OD.out,Hc.out,hp,if_pos ⟨Rt.out,by omega⟩,Int.toNat_natCast,Cp])
        have Rs:=lH gvl;obtain⟨nl,FH⟩:∃y,its.length=y:=⟨_,rfl⟩
        rw[FH] at su y1 hj;have oh:0<=(j:Int):=by omega
        have mZ:(j:Int)<(nl:Int):=by omega
        have R6:=lH v2;have Sd:=lH y1;clear hp Cp gvl FH v2;go_wp2_with fail
        go_still_tail 6,(by kernel_rfl)
        change wpList _ _ _ _ _ (World.drew _);go_wp2_with fail
        refine su.mono ?_;rintro e w7 ⟨rfl,sT⟩;have GM:Hid (Below wr.heap.size wr w7):=lH (ew.out.trans (((Below.refl _ wc).drew.trans sT).mono ew.out.size));have Fd:=(Below.refl _ wc).drew.trans sT;have z1:=(Fd.cell (p:=⟨b,1,none⟩) Ey.out).trans Sd.out;have z2:=(Fd.cell (p:=⟨gv,j*3+2,none⟩) Rs.out).trans R6.out;have Eg:=zb HQ.out.1 (fun j hj=>GM.out.block j (HQ.out.1.lt j hj).2);have mj:∀i,w7.frozen? ⟨g,i,none⟩=false:=fun i=>by
         rcases Eg.2 with⟨e,-⟩ | ⟨g2,cap,cur2,e,hb,la,-⟩
         · cases e
         · simp only[Value.slice.injEq,Option.some.injEq,Addr.mk.injEq] at e;obtain⟨⟨rfl,-⟩,-⟩:=e;simp only[World.frozen?,la];simp
        have f6:=mj (k*7+6);have z6:∃u,w7.cell? ⟨g,k*7+6,none⟩=some u:=by
         have:=Eg.cells (g:=g) rfl (k*7+6) (I t.lag) (by
          rw[vz (wE r k) k 6 (by rw[me.out];exact aS) (by omega)];obtain⟨ah,he⟩:=List.getElem?_eq_some_iff.1 sL.out;rw[he];rfl)
         exact⟨_,by simpa [Addr.add_lit] using this⟩
        obtain⟨u6,z6⟩:=z6;have lq:=wh (u:=I lg) (j:=k*7+6) Eg (by rw[uo,me.out];omega);rw[jB (wE r k) k 6 t (wi t lg) (I lg) sL.out (by omega) rfl,<- RZ.out,<- tW.out] at lq;have sM:Hid ((w7.setCell ⟨g,k*7+6,none⟩ (I lg)).ownsRow W.heap.size 62 7 (.slice (some ⟨g,0,none⟩) n q1) n (zu (wE r (k+1)))/\Below W.heap.size W (w7.setCell ⟨g,k*7+6,none⟩ (I lg))):=lH ⟨lq,(HQ.out.2.trans (GM.out.mono HQ.out.2.size)).setCell HG.out.1 _⟩;clear HQ tW sL su sT Fd u0 y0 y1 lq Eg mj;go_wp2_with fail
        (first | go_roundw | (refine⟨?_,?measure⟩;(repeat apply Exists.intro);refine⟨?rel,rfl⟩))
        case rel=>exact⟨k+1,aS,by go_num,sM⟩
        case measure=>simp[intOf];omega
    · have mK:Hid (wE r (k+1)=wE r k):=lH (by
       rw[tW.out];have:xn r t=t:=by unfold xn;rw[if_neg (fun e=>h2 e.1)]
       rw[this];obtain⟨ah,he⟩:=List.getElem?_eq_some_iff.1 sL.out;rw[<- he];exact List.set_getElem_self ah)
      have sM:Hid (wr.ownsRow W.heap.size 62 7 (.slice (some ⟨g,0,none⟩) n q1) n (zu (wE r (k+1)))/\Below W.heap.size W wr):=lH (by rw[mK.out];exact HQ.out);clear HQ tW sL mK;go_wp2_with fail
      (first | go_roundw | (refine⟨?_,?measure⟩;(repeat apply Exists.intro);refine⟨?rel,rfl⟩))
      case rel=>exact⟨k+1,aS,by go_num,sM⟩
      case measure=>simp[intOf];omega
  · obtain rfl:k=n:=by omega
    have au:Hid (wr.ownsRow W.heap.size 62 7 (.slice a1 k q1) r.ts.length (zu (r.ts.map (xn r)))/\Below W.heap.size W wr):=lH (by
     have h1:=HQ.out.1;unfold wE at h1;rw[List.take_of_length_le (by rw[HN.out];exact Nat.le_refl _),List.drop_eq_nil_of_le (by rw[HN.out];exact Nat.le_refl _),List.append_nil] at h1;rw[HN.out];exact⟨h1,HQ.out.2⟩)
    clear HQ;go_wp2_with fail
    go_ret
    exact⟨_,rfl,au.out.1,au.out.2⟩
end
section
variable {k n:Nat} {b:Int} {s:Sy} {r:RSy}
theorem Rel.len_ts (hR:Rel s r) (hI:InvY k b n s):r.ts.length=(zf s.ps).length:=by
 have:=congrArg List.length (hR.ids hI);rwa [List.length_map] at this
theorem UY (hR:Rel s r) (hI:InvY k b n s) (hk:k<=400) (hb:b<=1000000000000000000):∀t∈r.ts,t.state=2->∃i:Nat,t.core=(i:Int)/\i<r.cores.length/\r.cores[i]!.2.ps.length<=64/\∀p∈r.cores[i]!.2.ps,IntKind.i64.wrap (r.cores[i]!.2.base-p.v)=r.cores[i]!.2.base-p.v:=fun t ht h2=>by
 obtain⟨u,hu,hS⟩:=hR.at_ t ht;obtain⟨i,hi,aN,-⟩:=hI.at_ hu (by rw[<- hS.state];exact h2);have eB:i<s.cores.length:=by rw[hI.len];exact aN
 have hc:=(hR.core eB).2;refine⟨i,by rw[hS.core];exact hi,by rw[hR.len];exact eB,?_,?_⟩
 · rw[hc];exact(hI.nums hk hb aN).1
 · rw[hc];exact hI.wrapL hk hb aN
theorem KE (hR:Rel s r) (hI:InvY k b n s) (i:Nat) (hi:i<r.ts.length) :
 (yD s ((zf s.ps).getD i 0)).id=(xn r r.ts[i]).id/\(yD s ((zf s.ps).getD i 0)).w=(xn r r.ts[i]).w/\(yD s ((zf s.ps).getD i 0)).core=(xn r r.ts[i]).core/\(yD s ((zf s.ps).getD i 0)).state=(xn r r.ts[i]).state/\(yD s ((zf s.ps).getD i 0)).lag=(xn r r.ts[i]).lag:=by
 have iX:=hR.ids hI;have hx:(zf s.ps).getD i 0=r.ts[i].id:=by
  rw[<- iX,List.getD_eq_getElem?_getD,List.getElem?_map,List.getElem?_eq_getElem hi];rfl
 obtain⟨u,hu,hS⟩:=hR.at_ _ (List.getElem_mem hi);rw[hx,Q8 hu];generalize r.ts[i]=t at hu hS;have hid:=(hI.task _ u hu).id;have hf:(xn r t).id=t.id/\(xn r t).w=t.w/\(xn r t).core=t.core/\(xn r t).state=t.state:=by
  unfold xn;split <;> exact⟨rfl,rfl,rfl,rfl⟩
 refine⟨by rw[hf.1];exact hS.id.symm,by rw[hf.2.1];exact hS.w.symm,by rw[hf.2.2.1];exact hS.core.symm,by rw[hf.2.2.2];exact hS.state.symm,?_⟩;show Yr s u=_;unfold Yr xn;by_cases h2:u.state=2
 · obtain⟨j,hj,mZ,hh⟩:=hI.at_ hu h2;have iK:j<s.cores.length:=by rw[hI.len];exact mZ
   have hc:=(hR.core iK).2;rw[if_pos h2,hS.core,hj,Int.toNat_natCast,hc,hS.id,hS.state];obtain⟨p,hp,e1,e2⟩:=hh;have lp:0<=qk (zw s.cores[j]!.l) u.id:=by
    rcases vM (zw s.cores[j]!.l) u.id with⟨-,hn⟩ | ⟨q,hq,TU,-,-⟩
    · exact absurd (e1.trans hid.symm) (hn (itP _ p) (List.mem_map_of_mem hp))
    · omega
   rw[if_pos ⟨h2,lp⟩];unfold uO;rw[if_pos lp];rfl
 · rw[if_neg h2,hS.state,if_neg (fun e=>h2 e.1)];exact(hS.lag h2).symm
end
theorem XH (r:RSy) (i:Nat) (hi:i<r.ts.length) (f:Nat) (hf:f<7):(zu (r.ts.map (xn r)))[i*7+f]? = (xn r r.ts[i]).cells[f]?:=by
 rw[vz (r.ts.map (xn r)) i f (by simpa using hi) hf];simp
end Go.Proofs.YtoiajjobecinpaaGreat
