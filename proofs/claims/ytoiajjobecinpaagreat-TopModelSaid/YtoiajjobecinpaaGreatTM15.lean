/- A task is told. The least load. What a world does with an act: system. Own law: append of one known  -/
import Derived.Test.YtoiajjobecinpaaGreatTM11
import Derived.Test.YtoiajjobecinpaaGreatTM13
import Derived.Test.YtoiajjobecinpaaGreatTM14
set_option maxHeartbeats 4000000
set_option maxRecDepth 100000
namespace Go.Proofs.YtoiajjobecinpaaGreat
open Go.RowKit Go.Shelf Go.Lib Go.Proofs
set_option linter.unusedVariables false
set_option linter.unusedSimpArgs false
section
attribute [local go_sem] Oper.semAt_some
def Tk.cells (t:Tk):List Value:=[I t.id,I t.w,I t.group,I t.core,I t.state,.int .u16 t.mask,I t.lag]
def Yr (s:Sy) (t:Tk):Int:=if t.state=2 then(uO (zw s.cores[t.core.toNat]!.l) t.id).lag else t.lag
def gm (s:Sy) (t:Tk):Tk:=⟨t.id,t.w,t.group,t.core,t.state,t.mask,Yr s t⟩
def dr (s:Sy) (t:Tk) (w:World) (e:Ending) (W':World):Prop:=
 e=.returned (.tuple #[.agg (gm s t).cells.toArray,I 0])/\Below w.heap.size w W'
def uT (W:World) (B:Nat) (t:Tk):Prop:=W.heap[B]? = some (.cells t.cells.toArray 60 (0,0))
theorem uT.cells {W:World} {B:Nat} {t:Tk} (h:uT W B t):(W.cell? ⟨B,0,none⟩=some (I t.id)/\W.cell? ⟨B,1,none⟩=some (I t.w)/\W.cell? ⟨B,2,none⟩=some (I t.group)/\W.cell? ⟨B,3,none⟩=some (I t.core) /\
 W.cell? ⟨B,4,none⟩=some (I t.state)/\W.cell? ⟨B,5,none⟩=some (.int .u16 t.mask)/\W.cell? ⟨B,6,none⟩=some (I t.lag))/\∀i,W.frozen? ⟨B,i,none⟩=false:=by
 unfold uT at h;refine⟨⟨?_,?_,?_,?_,?_,?_,?_⟩,fun i=>by simp only[World.frozen?,h];simp⟩;all_goals (simp only[World.cell?,h];rfl)
theorem uT.lt {W:World} {B:Nat} {t:Tk} (h:uT W B t):B<W.heap.size:=(Array.getElem?_eq_some_iff.1 h).1
theorem uT.below {W W':World} {B n:Nat} {t:Tk} (h:uT W B t) (hb:Below n W W') (hB:B<n):uT W' B t:=(hb.block B hB).trans h
theorem uT.alloc {W:World} {B:Nat} {t:Tk} (h:uT W B t) (o:Obj):uT (W.alloc o) B t:=(Below.heap_alloc _ _ _ h.lt).trans h
theorem uT.put {W:World} {B:Nat} {t:Tk} (h:uT W B t) (u:Tk) :
 uT (((((((W.setCell ⟨B,0,none⟩ (I u.id)).setCell ⟨B,1,none⟩ (I u.w)).setCell ⟨B,2,none⟩ (I u.group)).setCell ⟨B,3,none⟩ (I u.core)).setCell ⟨B,4,none⟩ (I u.state)).setCell ⟨B,5,none⟩ (.int .u16 u.mask)).setCell ⟨B,6,none⟩ (I u.lag)) B u:=by
 unfold uT at h⊢;simp[World.setCell,Array.getElem?_modify,h,Tk.cells]
theorem jq (W:World) (t:Tk):uT (W.alloc (.cells t.cells.toArray 60)) W.heap.size t:=heap_alloc_new _ _
theorem TaskAt.lt {W:World} {b:Nat} {t:Tk} (h:TaskAt W b t):b<W.heap.size:=World.block_lt_of_cell? _ _ h.id
theorem Vx (sb gb nb pb mb n:Nat) (cv:Value) (D:DataW Unit) (cbs:List Nat) (tb:Int->Nat) (own:Nat->Option Own) (s:Sy) (id:Int) (t:Tk) (W:World) (h:SysAt W sb gb nb pb mb n cv D cbs tb own s)
 (h1:-9223372036854775808<=id) (h2:id<=9223372036854775807) (ht:s.tasks id=some t) (aG:t.state≠2) :
 Calls Tryz.prog 142 #[.pointer (some ⟨sb,0,none⟩),I id] W (dr s t W):=by
 have rK:=h.look id h1 h2;rw[ht] at rK;simp only at rK;have eu:=h.below ((Below.refl _ W).alloc (Nat.le_refl _) (.cells #[I 0,I 0,I 0,I 0,I 0,.int .u16 0,I 0] 60));have hl:=eu.look id h1 h2;rw[ht] at hl;simp only at hl;have c67:=eu.c67;have hT:=(eu.task id t ht).1;have rU:=(h.task id t ht).1.lt;obtain⟨b,hb⟩:∃b,tb id=b:=⟨_,rfl⟩
 rw[hb] at hl hT rU;have iZ:Yr s t=t.lag:=by unfold Yr;rw[if_neg aG]
 have sJ:gm s t=t:=by unfold gm;rw[iZ]
 unfold dr;rw[sJ];have en:=jq W ⟨0,0,0,0,0,0,0⟩;obtain⟨ti,tw,tg,tc,ts,tm,tl⟩:=t;simp only at aG;obtain⟨e0,e1,e2,e3,e4,e5,e6,-⟩:=hT;simp only at e0 e1 e2 e3 e4 e5 e6;have lF:=lH en;unfold Tk.cells at lF;have Gg:=lH rU;clear h ht hb rK eu iZ sJ en rU;go_enter Tryz.func142,Tryz.ntmps142;go_wp2_with fail
 refine bodyPost_ret (v:=.tuple #[.agg #[I ti,I tw,I tg,I tc,I ts,.int .u16 tm,I tl],I 0]) ?_ rfl ⟨rfl,((Below.refl _ _).alloc (Nat.le_refl _) _).alloc (by simp) _⟩;obtain⟨⟨g0,g1,g2,g3,g4,g5,g6⟩,-⟩:=((jq W ⟨ti,tw,tg,tc,ts,tm,tl⟩).alloc (.cells #[I ti,I tw,I tg,I tc,I ts,.int .u16 tm,I tl] 60)).cells;unfold Tk.cells at g0 g1 g2 g3 g4 g5 g6;simp only at g0 g1 g2 g3 g4 g5 g6;simp[results,Tryz.results142,go_sem,g0,g1,g2,g3,g4,g5,g6]
abbrev RdS (W:World) (sb g i cb B:Nat) (n c:Nat) (W2:World):Prop:=
 Below W.heap.size W W2/\W2.cell? ⟨sb,0,none⟩=some (.slice (some ⟨g,0,none⟩) n c)/\W2.cell? ⟨g,i,none⟩=some (.pointer (some ⟨cb,0,none⟩))/\W2.cell? ⟨B,3,none⟩=some (I i)
theorem RdS.step {W:World} {sb g i cb B n c:Nat} {W2 W3:World} (h:RdS W sb g i cb B n c W2) (hb:Below W2.heap.size W2 W3):RdS W sb g i cb B n c W3:=
 ⟨h.1.trans (hb.mono h.1.size),ga hb h.2.1,ga hb h.2.2.1,ga hb h.2.2.2⟩
theorem RdS.allocd {W:World} {sb g i cb B n c:Nat} {W2:World} (h:RdS W sb g i cb B n c W2) (o:Obj):RdS W sb g i cb B n c (W2.alloc o):=h.step ((Below.refl _ _).alloc (Nat.le_refl _) _)
theorem RdS.put {W:World} {sb g i cb B n c B8:Nat} {W2:World} (h:RdS W sb g i cb B n c W2) (hB:W.heap.size<=B8) (hs:sb<W.heap.size) (hg:g<W.heap.size) (hb:B<W.heap.size) (x y z:Value) :
 RdS W sb g i cb B n c (((W2.setCell ⟨B8,0,none⟩ x).setCell ⟨B8,1,none⟩ y).setCell ⟨B8,2,none⟩ z):=by
 refine⟨((h.1.setCell (show W.heap.size<=B8 from hB) _).setCell (show W.heap.size<=B8 from hB) _).setCell (show W.heap.size<=B8 from hB) _,?_,?_,?_⟩
 · rw[za _ (fun e=>by injection e;omega),za _ (fun e=>by injection e;omega),za _ (fun e=>by injection e;omega)];exact h.2.1
 · rw[za _ (fun e=>by injection e;omega),za _ (fun e=>by injection e;omega),za _ (fun e=>by injection e;omega)];exact h.2.2.1
 · rw[za _ (fun e=>by injection e;omega),za _ (fun e=>by injection e;omega),za _ (fun e=>by injection e;omega)];exact h.2.2.2
def RdE (W1:World) (B8:Nat) (x:It) (Wf:World):Prop:=Below W1.heap.size W1 Wf/\W1.heap.size<=B8/\qH Wf B8 x
theorem Xh (sb gb nb pb mb n:Nat) (cv:Value) (D:DataW Unit) (cbs:List Nat) (tb:Int->Nat) (own:Nat->Option Own) (s:Sy) (id:Int) (t:Tk) (i:Nat) (W:World) (h:SysAt W sb gb nb pb mb n cv D cbs tb own s)
 (h1:-9223372036854775808<=id) (h2:id<=9223372036854775807) (ht:s.tasks id=some t) (aG:t.state=2) (hid:t.id=id) (hi:t.core=(i:Int)) (eB:i<cbs.length) (hf:yn s.cores[i]!.l) :
 Calls Tryz.prog 142 #[.pointer (some ⟨sb,0,none⟩),I id] W (dr s t W):=by
 have en:Below W.heap.size W (W.alloc (.cells #[I 0,I 0,I 0,I 0,I 0,.int .u16 0,I 0] 60)):=(Below.refl _ W).alloc (Nat.le_refl _) _;have eu:=h.below en;have hl:=eu.look id h1 h2;rw[ht] at hl;simp only at hl;have c67:=eu.c67;have hT:=(eu.task id t ht).1;have rU:=(h.task id t ht).1.lt;obtain⟨b,hb⟩:∃b,tb id=b:=⟨_,rfl⟩
 rw[hb] at hl hT rU;obtain⟨g,cc,aQ⟩:=h.form (by omega);subst aQ;have hh:=h.head;have mA:=h.coreCell i eB;have eL:g<W.heap.size:=World.block_lt_of_cell? _ _ mA;have le:=h.lt sb (by rw[h.osb];simp);have rk:∀W',Below W.heap.size W W'->Calls Tryz.prog 89 #[.pointer (some ⟨cbs[i]!,0,none⟩)] W' (uS W' s.cores[i]!.l.cur (zw s.cores[i]!.l)):=fun W' hb=>dz _ _ _ W' ((h.below hb).core i eB) hf;have ag:(zw s.cores[i]!.l).length<=64:=by unfold zw;rw[List.length_map];exact hf.1
 have iZ:Yr s t=(uO (zw s.cores[i]!.l) id).lag:=by unfold Yr;rw[if_pos aG,hi,hid];rfl
 have sJ:gm s t=⟨t.id,t.w,t.group,t.core,t.state,t.mask,(uO (zw s.cores[i]!.l) id).lag⟩:=by unfold gm;rw[iZ]
 unfold dr;rw[sJ];have og:∀(v:Value) (W':World),FSl W' v (zw s.cores[i]!.l)->Calls Tryz.prog 22 #[.agg #[I s.cores[i]!.l.cur,v],I id] W' (bd (zw s.cores[i]!.l) id W'):=fun v W' hv=>cC _ v _ id W' hv (by omega);obtain⟨cb,mu⟩:∃x,cbs[i]! = x:=⟨_,rfl⟩
 rw[mu] at rk mA;obtain⟨its,oY⟩:∃x,zw s.cores[i]!.l=x:=⟨_,rfl⟩
 obtain⟨cur,mB⟩:∃x,s.cores[i]!.l.cur=x:=⟨_,rfl⟩
 rw[oY] at rk og⊢;rw[mB] at rk og;obtain⟨lag,Cp⟩:∃x,(uO its id).lag=x:=⟨_,rfl⟩
 obtain⟨iw,PA⟩:∃x,(uO its id).w=x:=⟨_,rfl⟩
 obtain⟨ii,Py⟩:∃x,(uO its id).id=x:=⟨_,rfl⟩
 obtain⟨pb2,IZ⟩:∃x,decide (0<=qk its id)=x:=⟨_,rfl⟩
 unfold bd at og;rw[Cp,PA,Py,IZ] at og;rw[Cp];obtain⟨ti,tw,tg,tc,ts,tm,tl⟩:=t;simp only at aG hi hid;subst aG hi;obtain⟨e0,e1,e2,e3,e4,e5,e6,-⟩:=hT;simp only at e0 e1 e2 e3 e4 e5 e6;have Gg:=lH rU;have FH:(i:Int)<(cbs.length:Int):=by omega
 have sf:(0:Int)<=(i:Int):=by omega
 obtain⟨N,hN⟩:∃x,cbs.length=x:=⟨_,rfl⟩
 rw[hN] at hh FH;clear h ht hb eu iZ sJ rU oY mB Cp PA Py IZ hf ag mu eB hid hN;go_enter Tryz.func142,Tryz.ntmps142;go_wp2_with fail
 have eE:Below W.heap.size W ((W.alloc (.cells #[I 0,I 0,I 0,I 0,I 0,.int .u16 0,I 0] 60)).alloc (.cells #[I ti,I tw,I tg,I i,I 2,.int .u16 tm,I tl] 60)).drew:=(en.alloc (by simp) _).drew;have hX:=(jq (W.alloc (.cells #[I 0,I 0,I 0,I 0,I 0,.int .u16 0,I 0] 60)) ⟨ti,tw,tg,i,2,tm,tl⟩)
 rw[zR] at hX;have CP:=(jq W ⟨0,0,0,0,0,0,0⟩).alloc (.cells (Tk.cells ⟨ti,tw,tg,i,2,tm,tl⟩).toArray 60);unfold Tk.cells at hX CP;simp only at hX CP;have Nv:=c2a (.cells #[I ti,I tw,I tg,I i,I 2,.int .u16 tm,I tl] 60) (c2a (.cells #[I 0,I 0,I 0,I 0,I 0,.int .u16 0,I 0] 60) hh);have rI:=c2a (.cells #[I ti,I tw,I tg,I i,I 2,.int .u16 tm,I tl] 60) (c2a (.cells #[I 0,I 0,I 0,I 0,I 0,.int .u16 0,I 0] 60) mA);clear hl c67 e0 e1 e2 e3 e4 e5 e6 hh mA en;have td:Below W.heap.size W ((W.alloc (.cells #[I 0,I 0,I 0,I 0,I 0,.int .u16 0,I 0] 60)).alloc (.cells #[I ti,I tw,I tg,I i,I 2,.int .u16 tm,I tl] 60)):=((Below.refl _ W).alloc (Nat.le_refl _) _).alloc (by simp) _;clear eE;generalize(W.alloc (.cells #[I 0,I 0,I 0,I 0,I 0,.int .u16 0,I 0] 60)).alloc (.cells #[I ti,I tw,I tg,I i,I 2,.int .u16 tm,I tl] 60)=W1 at Nv rI td hX CP⊢;have Bc:W.heap.size+1<W1.heap.size:=hX.lt;have N6:sb<W1.heap.size:=Nat.lt_of_lt_of_le le td.size;have Nu:g<W1.heap.size:=Nat.lt_of_lt_of_le eL td.size;replace rk:∀W',Below W1.heap.size W1 W'->Calls Tryz.prog 89 #[.pointer (some ⟨cb,0,none⟩)] W' (uS W' cur its):=fun W' hb=>rk W' (td.trans (hb.mono td.size));have hS:RdS W1 sb g i cb (W.heap.size+1) N cc W1.drew:=⟨(Below.refl _ _).drew,Nv,rI,hX.cells.1.2.2.2.1⟩
 have HX:=lH hX;have R9:=lH CP;have ef:=lH td;clear hX CP td Nv rI;go_region_held3 (RdS W1 sb g i cb (W.heap.size+1) N cc) (first | (with_reducible exact hS) | exact hS | exact hS.allocd _ | exact hS.put AO N6 Nu Bc _ _ _) (first | (go_at_call 22;refine(og _ _ hP).mono ?_;rintro e w9 ⟨rfl,eQ⟩;replace hS:=hS.step eQ;(try replace Cj:=Cj.below eQ Cj.lt);(try obtain⟨⟨c0,c1,c2⟩,f0,f1,f2⟩:=Cj.cells)) | (go_at_call 89;refine(rk _ hS.1).mono ?_;rintro e w8 ⟨v8,rfl,AJ,mP⟩;have hP:=FSl.of AJ;replace hS:=hS.step mP) | (go_at_call 89;refine(rk _ (hS.allocd (.cells #[I 0,I 0,I 0] 77)).1).mono ?_;rintro e w8 ⟨v8,rfl,AJ,mP⟩;have hP:=FSl.of AJ;have AO:W1.heap.size<=W1.heap.size:=Nat.le_refl _;have Cj:qH w8 W1.heap.size ⟨0,0,0⟩:=(ur W1.drew ⟨0,0,0⟩).below mP (ur W1.drew ⟨0,0,0⟩).lt;replace hS:=(hS.allocd _).step mP) | (go_at_call 22;refine(og _ _ (hP.alloc (.cells #[I 0,I 0,I 0] 77))).mono ?_;rintro e w9 ⟨rfl,eQ⟩;have AO:=hS.1.size;have Cj:=(ur _ ⟨0,0,0⟩).below eQ (ur _ ⟨0,0,0⟩).lt;obtain⟨⟨c0,c1,c2⟩,f0,f1,f2⟩:=Cj.cells;replace hS:=(hS.allocd _).step eQ) | fail)
 all_goals
  rename_i Gp;first
   | (have hE:RdE W1 w9.heap.size ⟨ii,iw,lag⟩ (w9.alloc (.cells #[I ii,I iw,I lag] 77)):=⟨Gp.1,hS.1.size,ur w9 ⟨ii,iw,lag⟩⟩
      clear Gp hS;generalize w9.alloc (.cells #[I ii,I iw,I lag] 77)=Wf at hE⊢;generalize w9.heap.size=B8 at hE⊢)
   | (have hE:RdE W1 w8.heap.size ⟨ii,iw,lag⟩ (((w9.setCell ⟨w8.heap.size,0,none⟩ (I ii)).setCell ⟨w8.heap.size,1,none⟩ (I iw)).setCell ⟨w8.heap.size,2,none⟩ (I lag)):=⟨Gp.1,AO,Cj.set ⟨ii,iw,lag⟩⟩
      clear Gp hS Cj c0 c1 c2 f0 f1 f2;generalize((w9.setCell ⟨w8.heap.size,0,none⟩ (I ii)).setCell ⟨w8.heap.size,1,none⟩ (I iw)).setCell ⟨w8.heap.size,2,none⟩ (I lag)=Wf at hE⊢;generalize w8.heap.size=B8 at hE⊢)
   | (have hE:RdE W1 W1.heap.size ⟨ii,iw,lag⟩ (((w9.setCell ⟨W1.heap.size,0,none⟩ (I ii)).setCell ⟨W1.heap.size,1,none⟩ (I iw)).setCell ⟨W1.heap.size,2,none⟩ (I lag)):=⟨Gp.1,AO,Cj.set ⟨ii,iw,lag⟩⟩
      clear Gp hS Cj c0 c1 c2 f0 f1 f2;generalize((w9.setCell ⟨W1.heap.size,0,none⟩ (I ii)).setCell ⟨W1.heap.size,1,none⟩ (I iw)).setCell ⟨W1.heap.size,2,none⟩ (I lag)=Wf at hE⊢;generalize W1.heap.size=B8 at hE⊢)
 all_goals
  obtain⟨LH,Tz,O2⟩:=hE;have z2:=O2.cells.1.2.2;have Pc:=HX.out.below LH Bc;have E8:=R9.out.below LH (Nat.lt_of_succ_lt Bc);obtain⟨⟨d0,d1,d2,d3,d4,d5,d6⟩,df⟩:=Pc.cells;obtain⟨⟨o0,o1,o2,o3,o4,o5,o6⟩,oz⟩:=E8.cells;have df6:=df 6;have oz0:=oz 0;have oz1:=oz 1;have oz2:=oz 2;have oz3:=oz 3;have oz4:=oz 4;have oz5:=oz 5;have oz6:=oz 6;have Hv:uT (Wf.setCell ⟨W.heap.size+1,6,none⟩ (I lag)) W.heap.size ⟨0,0,0,0,0,0,0⟩:=(Below.heap_setCell _ _ _ _ (by simp)).trans E8;obtain⟨⟨p0,p1,p2,p3,p4,p5,p6⟩,-⟩:=(Hv.put ⟨ti,tw,tg,i,2,tm,lag⟩).cells;simp only at z2 d0 d1 d2 d3 d4 d5 d6 o0 o1 o2 o3 o4 o5 o6 p0 p1 p2 p3 p4 p5 p6;have HP:=lH (And.intro p0 (And.intro p1 (And.intro p2 (And.intro p3 (And.intro p4 (And.intro p5 p6))))));have Re:=lH LH;clear p0 p1 p2 p3 p4 p5 p6 df oz Pc E8 Hv O2 Tz LH rk og hP mP eQ AJ;go_wp2_with fail
  obtain⟨p0,p1,p2,p3,p4,p5,p6⟩:=HP.out;refine bodyPost_ret (v:=.tuple #[.agg #[I ti,I tw,I tg,I i,I 2,.int .u16 tm,I lag],I 0]) ?_ rfl ⟨rfl,?_⟩
  · simp[results,Tryz.results142,go_sem,p0,p1,p2,p3,p4,p5,p6]
  · have hb:=ef.out.trans (Re.out.mono ef.out.size)
    exact(((((((hb.setCell (by simp) _).setCell (by simp) _).setCell (by simp) _).setCell (by simp) _).setCell (by simp) _).setCell (by simp) _).setCell (by simp) _).setCell (by simp) _
def zZ (loads:List Int) (a:Int×Bool) (x:G16):Int×Bool:=
 if x.1<loads.length/\(a.2=false\/loads.getD x.1.toNat 0<loads.getD a.1.toNat 0) then(x.1,true) else a
def zD (loads:List Int) (m:Int):Int×Bool:=(zV m).foldl (zZ loads) (0,false)
theorem U8 {loads:List Int} {a:Int×Bool} {x:G16} (h:a.2=true->0<=a.1/\a.1<loads.length) (h':(zZ loads a x).2=true):0<=(zZ loads a x).1/\(zZ loads a x).1<loads.length:=by
 unfold zZ at h'⊢;have:=x.2;split at h' <;> rename_i hc
 · rw[if_pos hc];exact⟨this.1,hc.1⟩
 · rw[if_neg hc];exact h h'
theorem uZ {loads:List Int}:∀(xs:List G16) (a:Int×Bool),(a.2=true->0<=a.1/\a.1<loads.length)->(xs.foldl (zZ loads) a).2=true->0<=(xs.foldl (zZ loads) a).1/\(xs.foldl (zZ loads) a).1<loads.length
 | [],a,h=>h
 | x::xs,a,h=>uZ xs (zZ loads a x) (U8 h)
theorem fd (g c:Nat) (loads:List Int) (m:Int) (w:World) (hm:0<=m/\m<65536) (hn:loads.length<=16) (ap:∀i,i<loads.length->w.cell? ⟨g,i,none⟩=some (I (loads.getD i 0))) :
 Calls Tryz.prog 150 #[.slice (some ⟨g,0,none⟩) loads.length c,.int .u16 m] w fun e W'=>e=.returned (.tuple #[I (zD loads m).1,.bool (zD loads m).2])/\Below w.heap.size w W':=by
 have h1:1<=5:=by omega
 refine callsIn_wide.1 (callsIn_of_wp_marks (n:=5) Tryz.func150 rfl trivial (wpIn_wide.2 ?_) rfl);simp only[Tryz.ntmps150,List.size_toArray,List.length_cons,List.length_nil,Nat.reduceAdd,Nat.reduceSub,Array.replicate_succ,Array.replicate_zero,List.push_toArray,List.append_toArray,List.nil_append,List.cons_append];go_wp2_with (go_at_call 178;refine(UA m _).mono ?_;rintro e w' ⟨rfl,rfl⟩)
 have q0:=zv w (.slice (some ⟨g,0,none⟩) loads.length c) 42;have q1:=zv (w.alloc (.cells #[.slice (some ⟨g,0,none⟩) loads.length c] 42)) (I 0) 3;have q2:=zv ((w.alloc (.cells #[.slice (some ⟨g,0,none⟩) loads.length c] 42)).alloc (.cells #[I 0] 3)) (.bool false) 4;have q3:=zv (((w.alloc (.cells #[.slice (some ⟨g,0,none⟩) loads.length c] 42)).alloc (.cells #[I 0] 3)).alloc (.cells #[.bool false] 4)) (.int .u16 m) 58;have f1:=zY (.cells #[.int .u16 m] 58) (c2a (.cells #[.bool false] 4) q1.1) (zY (.cells #[.bool false] 4) q1.1 q1.2);have f2:=zY (.cells #[.int .u16 m] 58) q2.1 q2.2;replace q0:=c2a (.cells #[.int .u16 m] 58) (c2a (.cells #[.bool false] 4) (c2a (.cells #[I 0] 3) q0.1));replace q1:=c2a (.cells #[.int .u16 m] 58) (c2a (.cells #[.bool false] 4) q1.1);replace q2:=c2a (.cells #[.int .u16 m] 58) q2.1;replace q3:=q3.1;simp only[World.size_alloc] at q0 q1 q2 q3 f1 f2;have en:Below w.heap.size w ((((w.alloc (.cells #[.slice (some ⟨g,0,none⟩) loads.length c] 42)).alloc (.cells #[I 0] 3)).alloc (.cells #[.bool false] 4)).alloc (.cells #[.int .u16 m] 58)):=((((Below.refl _ w).alloc (Nat.le_refl _) _).alloc (by simp) _).alloc (by simp;omega) _).alloc (by simp;omega) _;have hz:((((w.alloc (.cells #[.slice (some ⟨g,0,none⟩) loads.length c] 42)).alloc (.cells #[I 0] 3)).alloc (.cells #[.bool false] 4)).alloc (.cells #[.int .u16 m] 58)).heap.size=w.heap.size+1+1+1+1:=by simp
 generalize(((w.alloc (.cells #[.slice (some ⟨g,0,none⟩) loads.length c] 42)).alloc (.cells #[I 0] 3)).alloc (.cells #[.bool false] 4)).alloc (.cells #[.int .u16 m] 58)=W1 at q0 q1 q2 q3 f1 f2 en hz⊢;refine(wpIn_wide (n:=5)).1 (wpIn_rangeFunc_ownF rfl h1 (gf:=190) (lb:=#[.pointer (some ⟨w.heap.size+1+1+1,0,none⟩)]) rfl trivial (enters_of Tryz.func190 (by kernel_rfl) rfl)
  (Yt (5-1) (by omega) (w.heap.size+1+1+1) m hm W1 (by omega) q3) KpG.t (KpG.b (by omega) (by omega)) (Below.refl _ _) (fun _=>rfl)
  (fun pre W=>(W1.heap.size<=W.heap.size/\W.cell? ⟨w.heap.size,0,none⟩=some (.slice (some ⟨g,0,none⟩) loads.length c)/\(W.cell? ⟨w.heap.size+1,0,none⟩=some (I (pre.foldl (zZ loads) (0,false)).1)/\W.frozen? ⟨w.heap.size+1,0,none⟩=false)/\(W.cell? ⟨w.heap.size+1+1,0,none⟩=some (.bool (pre.foldl (zZ loads) (0,false)).2)/\W.frozen? ⟨w.heap.size+1+1,0,none⟩=false))/\Below w.heap.size w W)
  (fun _ _ _=>False)
  (OwnFrom.and (Own.from (fun s A B row hs hg hr=>⟨Nat.le_trans hs.1 hg.size,cell_kept hs.2.1 hg hr,⟨cell_kept hs.2.2.1.1 hg hr,(frozen_kept hs.2.2.1.1 hg hr).trans hs.2.2.1.2⟩,⟨cell_kept hs.2.2.2.1 hg hr,(frozen_kept hs.2.2.2.1 hg hr).trans hs.2.2.2.2⟩⟩) _) (ownFrom_below (Nat.le_refl _) (by omega)))
  (fun _ _ _ _ _ hs _ _=>hs)
  ⟨⟨Nat.le_refl _,q0,⟨q1,f1⟩,⟨q2,f2⟩⟩,en⟩
  (fun x=>{tmps:=#[Value.slice (some ⟨g,0,none⟩) loads.length c,.int .u16 m,.pointer (some ⟨w.heap.size,0,none⟩),undef,I 0,.bool false,.pointer (some ⟨w.heap.size+1,0,none⟩),.pointer (some ⟨w.heap.size+1+1,0,none⟩),I x.1,.int .u16 m,.func (.func 190) #[] #[.pointer (some ⟨w.heap.size+1+1+1,0,none⟩)],I x.1,undef,undef,undef,undef,undef,undef,undef,undef,undef,undef,undef,undef,undef,undef,undef,undef,undef,undef,undef,undef,undef,undef],defers:=[]}) ?assign ?body ?done ?stop)
 case assign=>
  intro l x W K hK;gi_wp2
  simpa using hK
 case body=>
  rintro l pre ⟨x,ek,ia⟩ W ⟨⟨p9,aX,⟨hb,Fe⟩,⟨ho,rQ⟩⟩,hB⟩ sE;have e1:1<=5-1-1:=by omega
  have i8:=uZ (loads:=loads) pre (0,false) (by simp);have eY:(pre++[(⟨x,ek,ia⟩:G16)]).foldl (zZ loads) (0,false)=zZ loads (pre.foldl (zZ loads) (0,false)) ⟨x,ek,ia⟩:=by rw[List.foldl_append];rfl
  obtain⟨a,ha⟩:∃a,pre.foldl (zZ loads) (0,false)=a:=⟨_,rfl⟩
  rw[ha] at hb ho i8 eY;obtain⟨k,rfl⟩:=Int.eq_ofNat_of_zero_le ek;obtain⟨best,ok⟩:=a;simp only at hb ho i8;clear q0 q1 q2 q3 f1 f2;have hmx:Tryz.prog.follows .mixedOrders=true:=by kernel_rfl
  obtain⟨n,oo⟩:∃n,loads.length=n:=⟨_,rfl⟩
  by_cases hk:k<loads.length
  · cases ok with
    | false=>
     have aG:zZ loads (best,false) ⟨(k:Int),ek,ia⟩=((k:Int),true):=by unfold zZ;rw[if_pos ⟨by simp;omega,.inl rfl⟩]
     rw[aG] at eY;have HF:=lH eY;rw[oo] at aX⊢;have aS:(k:Int)<(n:Int):=by omega
     clear aG eY ha ap;gi_wp2
     refine xN rfl hmx (by kernel_rfl) (by kernel_rfl) ?_;repeat (gi_big_quiet_step (fail))
     refine wpQuietIn_nil ?_;intro _ nj;obtain⟨nq,tR⟩:=nj;subst tR;have hd:Below W.heap.size W (W.drewN nq):=below_drewN (Below.refl _ _) _;have ar:(W.drewN nq).cell? ⟨w.heap.size+1,0,none⟩=some (I best):=hb;have pY:(W.drewN nq).cell? ⟨w.heap.size+1+1,0,none⟩=some (.bool false):=ho;have ly:(W.drewN nq).cell? ⟨w.heap.size,0,none⟩=some (.slice (some ⟨g,0,none⟩) n c):=aX;have oT:(W.drewN nq).frozen? ⟨w.heap.size+1,0,none⟩=false:=Fe;have pk:(W.drewN nq).frozen? ⟨w.heap.size+1+1,0,none⟩=false:=rQ;have et:W.heap.size<=(W.drewN nq).heap.size:=hd.size;generalize W.drewN nq=W2 at hd ar pY ly oT pk et⊢;gi_wp2
     refine⟨(yS hd).trans ((KeepsOthers.setCell _ _ _).trans (KeepsOthers.setCell _ _ _)),⟨(Below.heap_setCell _ _ _ _ (by first | (simp;done) | (simp;omega))).trans ((Below.heap_setCell _ _ _ _ (by first | (simp;done) | (simp;omega))).trans (hd.block _ (by omega))),(Below.heap_setCell _ _ _ _ (by first | (simp;done) | (simp;omega))).trans ((Below.heap_setCell _ _ _ _ (by first | (simp;done) | (simp;omega))).trans (hd.block _ (by omega)))⟩,⟨by simp;omega,?_,⟨?_,?_⟩,⟨?_,?_⟩⟩,?_⟩
     · rw[za _ (by first | (simp;done) | (simp;omega)),za _ (by first | (simp;done) | (simp;omega))];exact ly
     · rw[za _ (by simp),HF.out];exact World.cell?_setCell_same _ _ _ ar
     · rw[World.frozen?_setCell,World.frozen?_setCell];exact oT
     · rw[HF.out];exact World.cell?_setCell_same _ _ _ (by rw[za _ (by simp)];exact pY)
     · rw[World.frozen?_setCell,World.frozen?_setCell];exact pk
     · exact((hB.trans (hd.mono hB.size)).setCell (p:=⟨w.heap.size+1,0,none⟩) (by simp) _).setCell (p:=⟨w.heap.size+1+1,0,none⟩) (by simp;omega) _
    | true=>
     obtain⟨lk,ab⟩:=i8 rfl;obtain⟨j,rfl⟩:=Int.eq_ofNat_of_zero_le lk;have Ii:=(hB.cell (p:=⟨g,k,none⟩) (World.block_lt_of_cell? w _ (ap k hk))).trans (ap k hk)
     have sA:=(hB.cell (p:=⟨g,j,none⟩) (World.block_lt_of_cell? w _ (ap j (by omega)))).trans (ap j (by omega))
     have JO:zZ loads ((j:Int),true) ⟨(k:Int),ek,ia⟩=if loads.getD k 0<loads.getD j 0 then((k:Int),true) else((j:Int),true):=by
      unfold zZ;by_cases ah:loads.getD k 0<loads.getD j 0
      · rw[if_pos ⟨by simp;omega,.inr (by simpa using ah)⟩,if_pos ah]
      · rw[if_neg (fun hh=>hh.2.elim (fun h3=>by cases h3) (fun h3=>ah (by simpa using h3))),if_neg ah]
     rw[JO] at eY;have HF:=lH eY;rw[oo] at aX⊢ ab;have aS:(k:Int)<(n:Int):=by omega
     clear JO eY ha i8 ap;generalize loads.getD k 0=x at Ii HF;generalize loads.getD j 0=y at sA HF;by_cases ah:x<y
     · rw[if_pos ah] at HF;gi_wp2
       refine xN rfl hmx (by kernel_rfl) (by kernel_rfl) ?_;repeat (gi_big_quiet_step (fail))
       refine wpQuietIn_nil ?_;intro _ nj;obtain⟨nq,tR⟩:=nj;subst tR;have hd:Below W.heap.size W (W.drewN nq):=below_drewN (Below.refl _ _) _;have ar:(W.drewN nq).cell? ⟨w.heap.size+1,0,none⟩=some (I j):=hb;have pY:(W.drewN nq).cell? ⟨w.heap.size+1+1,0,none⟩=some (.bool true):=ho;have ly:(W.drewN nq).cell? ⟨w.heap.size,0,none⟩=some (.slice (some ⟨g,0,none⟩) n c):=aX;have oT:(W.drewN nq).frozen? ⟨w.heap.size+1,0,none⟩=false:=Fe;have pk:(W.drewN nq).frozen? ⟨w.heap.size+1+1,0,none⟩=false:=rQ;have et:W.heap.size<=(W.drewN nq).heap.size:=hd.size;generalize W.drewN nq=W2 at hd ar pY ly oT pk et⊢;gi_wp2
       refine⟨(yS hd).trans ((KeepsOthers.setCell _ _ _).trans (KeepsOthers.setCell _ _ _)),⟨(Below.heap_setCell _ _ _ _ (by first | (simp;done) | (simp;omega))).trans ((Below.heap_setCell _ _ _ _ (by first | (simp;done) | (simp;omega))).trans (hd.block _ (by omega))),(Below.heap_setCell _ _ _ _ (by first | (simp;done) | (simp;omega))).trans ((Below.heap_setCell _ _ _ _ (by first | (simp;done) | (simp;omega))).trans (hd.block _ (by omega)))⟩,⟨by simp;omega,?_,⟨?_,?_⟩,⟨?_,?_⟩⟩,?_⟩
       · rw[za _ (by first | (simp;done) | (simp;omega)),za _ (by first | (simp;done) | (simp;omega))];exact ly
       · rw[za _ (by simp),HF.out];exact World.cell?_setCell_same _ _ _ ar
       · rw[World.frozen?_setCell,World.frozen?_setCell];exact oT
       · rw[HF.out];exact World.cell?_setCell_same _ _ _ (by rw[za _ (by simp)];exact pY)
       · rw[World.frozen?_setCell,World.frozen?_setCell];exact pk
       · exact((hB.trans (hd.mono hB.size)).setCell (p:=⟨w.heap.size+1,0,none⟩) (by simp) _).setCell (p:=⟨w.heap.size+1+1,0,none⟩) (by simp;omega) _
     · rw[if_neg ah] at HF;have lI:y<=x:=by omega
       gi_wp2
       refine xN rfl hmx (by kernel_rfl) (by kernel_rfl) ?_;repeat (gi_big_quiet_step (fail))
       refine wpQuietIn_nil ?_;intro _ nj;obtain⟨nq,tR⟩:=nj;subst tR;have hd:Below W.heap.size W (W.drewN nq):=below_drewN (Below.refl _ _) _;have ar:(W.drewN nq).cell? ⟨w.heap.size+1,0,none⟩=some (I j):=hb;have pY:(W.drewN nq).cell? ⟨w.heap.size+1+1,0,none⟩=some (.bool true):=ho;have ly:(W.drewN nq).cell? ⟨w.heap.size,0,none⟩=some (.slice (some ⟨g,0,none⟩) n c):=aX;have oT:(W.drewN nq).frozen? ⟨w.heap.size+1,0,none⟩=false:=Fe;have pk:(W.drewN nq).frozen? ⟨w.heap.size+1+1,0,none⟩=false:=rQ;have et:W.heap.size<=(W.drewN nq).heap.size:=hd.size;generalize W.drewN nq=W2 at hd ar pY ly oT pk et⊢;gi_wp2
       refine⟨yS hd,ut hd (by omega) (by omega),⟨by omega,ly,⟨by rw[HF.out];exact ar,oT⟩,⟨by rw[HF.out];exact pY,pk⟩⟩,hB.trans (hd.mono hB.size)⟩
  · have aG:zZ loads (best,ok) ⟨(k:Int),ek,ia⟩=(best,ok):=by unfold zZ;rw[if_neg (fun hh=>by have:=hh.1;simp at this;omega)]
    rw[aG] at eY;have HF:=lH eY;rw[oo] at aX⊢;have aS:decide ((k:Int)<(n:Int))=false:=decide_eq_false (by omega);have IB:decide (k<n)=false:=decide_eq_false (by omega);clear aG eY ha ap;gi_wp2
    refine xN rfl hmx (by kernel_rfl) (by kernel_rfl) ?_;repeat (gi_big_quiet_step (fail))
    refine wpQuietIn_nil ?_;intro _ nj;obtain⟨nq,tR⟩:=nj;subst tR;have hd:Below W.heap.size W (W.drewN nq):=below_drewN (Below.refl _ _) _;have ar:(W.drewN nq).cell? ⟨w.heap.size+1,0,none⟩=some (I best):=hb;have pY:(W.drewN nq).cell? ⟨w.heap.size+1+1,0,none⟩=some (.bool ok):=ho;have ly:(W.drewN nq).cell? ⟨w.heap.size,0,none⟩=some (.slice (some ⟨g,0,none⟩) n c):=aX;have oT:(W.drewN nq).frozen? ⟨w.heap.size+1,0,none⟩=false:=Fe;have pk:(W.drewN nq).frozen? ⟨w.heap.size+1+1,0,none⟩=false:=rQ;have et:W.heap.size<=(W.drewN nq).heap.size:=hd.size;generalize W.drewN nq=W2 at hd ar pY ly oT pk et⊢;gi_wp2
    refine⟨yS hd,ut hd (by omega) (by omega),⟨by omega,ly,⟨by rw[HF.out];exact ar,oT⟩,⟨by rw[HF.out];exact pY,pk⟩⟩,hB.trans (hd.mono hB.size)⟩
 case done=>
  rintro D ys W hD rfl ⟨⟨p9,aX,⟨hb,Fe⟩,⟨ho,rQ⟩⟩,hB⟩ hK;rw[show(zV m).foldl (zZ loads) (0,false)=zD loads m from rfl] at hb ho;obtain⟨x1,ia⟩:∃x,(zD loads m).1=x:=⟨_,rfl⟩
  obtain⟨x2,iU⟩:∃x,(zD loads m).2=x:=⟨_,rfl⟩
  rw[ia] at hb;rw[iU] at ho;have Sa:=lH ia;have DA:=lH iU;clear ia iU;go_wp2_with fail
  go_quiet (fail)
  go_wp2_with fail
  have Bj:(W.drewN nq).heap[D]? = some (.deferred (some [])):=hK;have OV:Below w.heap.size w (W.drewN nq):=below_drewN hB _;generalize W.drewN nq=W2 at Bj OV⊢;refine⟨by simp,.inl ⟨_,_,rfl,run_takeDeferred Bj,?_⟩⟩;refine⟨.tuple #[I x1,.bool x2],?_,by rw[Sa.out,DA.out],OV.trans (belowK_b (w:=w) (Nat.le_refl _) _ D _ _ (by omega) Bj rfl rfl)⟩;simp[results,Tryz.f150,go_sem]
 case stop=>
  rintro D c pre W _ _ h _;exact h.elim
def yo (op a b c n m:Int) (bl:Value):Value:=.agg #[I op,I a,I b,I c,I n,I m,bl]
def Two (R:Int->Int->World->Prop) (e:Ending) (w':World):Prop:=∃x y:Int,e=.returned (.tuple #[I x,I y])/\R x y w'
def bi (R:Int->World->Prop) (e:Ending) (w':World):Prop:=∃y:Int,e=.returned (I y)/\R y w'
def yC (W:World) (op a b c n m:Int) (bl:Value):World:=(W.alloc (.cells #[I op,I a,I b,I c,I n,I m,bl] 35)).drew
def qT (W:World) (ob B:Nat) (sv wv:Value) (op a b c n m:Int) (bl:Value):Prop:=
 (W.cell? ⟨ob,0,none⟩=some sv/\W.cell? ⟨ob,1,none⟩=some wv)/\W.cell? ⟨B,0,none⟩=some (I op)/\W.cell? ⟨B,1,none⟩=some (I a)/\W.cell? ⟨B,2,none⟩=some (I b)/\W.cell? ⟨B,3,none⟩=some (I c) /\
  W.cell? ⟨B,4,none⟩=some (I n)/\W.cell? ⟨B,5,none⟩=some (I m)/\W.cell? ⟨B,6,none⟩=some bl
theorem y7 {W:World} {ob:Nat} {sv wv:Value} (h0:W.cell? ⟨ob,0,none⟩=some sv) (h1:W.cell? ⟨ob,1,none⟩=some wv) (op a b c n m:Int) (bl:Value) :
 qT (W.alloc (.cells #[I op,I a,I b,I c,I n,I m,bl] 35)) ob W.heap.size sv wv op a b c n m bl:=by
 have hh:=heap_alloc_new W (.cells #[I op,I a,I b,I c,I n,I m,bl] 35);refine⟨⟨c2a _ h0,c2a _ h1⟩,?_,?_,?_,?_,?_,?_,?_⟩;all_goals (simp only[World.cell?,hh];rfl)
theorem qT.kept {W W':World} {ob B:Nat} {sv wv:Value} {op a b c n m:Int} {bl:Value} (h:qT W ob B sv wv op a b c n m bl) (h1:W'.heap[ob]? = W.heap[ob]?) (h2:W'.heap[B]? = W.heap[B]?):qT W' ob B sv wv op a b c n m bl:=by
 have e1:∀i,W'.cell? ⟨ob,i,none⟩=W.cell? ⟨ob,i,none⟩:=fun i=>World.cell?_of_block h1;have e2:∀i,W'.cell? ⟨B,i,none⟩=W.cell? ⟨B,i,none⟩:=fun i=>World.cell?_of_block h2;obtain⟨⟨a1,a2⟩,a3,a4,a5,a6,a7,a8,a9⟩:=h;exact⟨⟨(e1 _).trans a1,(e1 _).trans a2⟩,(e2 _).trans a3,(e2 _).trans a4,(e2 _).trans a5,(e2 _).trans a6,(e2 _).trans a7,(e2 _).trans a8,(e2 _).trans a9⟩
def xE (W0:World) (ob B:Nat) (w':World):Prop:=w'.heap[ob]? = W0.heap[ob]?/\w'.heap[B]? = W0.heap[B]?
theorem cT (W:World) (ob sb:Nat) (wv:Value) (a b c n m:Int) (bl:Value) (R:Int->Int->World->Prop) (h0:W.cell? ⟨ob,0,none⟩=some (.pointer (some ⟨sb,0,none⟩))) (h1:W.cell? ⟨ob,1,none⟩=some wv)
 (af:Calls Tryz.prog 46 #[.pointer (some ⟨sb,0,none⟩),I a,I n,I m] (yC W 1 a b c n m bl) (Two fun x y w'=>R x y w'/\xE (yC W 1 a b c n m bl) ob W.heap.size w')) :
 Calls Tryz.prog 28 #[.pointer (some ⟨ob,0,none⟩),yo 1 a b c n m bl] W (Two R):=by
 unfold yC at af;unfold yo;have hS:=y7 h0 h1 1 a b c n m bl;generalize hB:W.heap.size=B at hS af;have oG:∀w',xE ((W.alloc (.cells #[I 1,I a,I b,I c,I n,I m,bl] 35)).drew) ob B w'->qT w' ob B (.pointer (some ⟨sb,0,none⟩)) wv 1 a b c n m bl:=fun w' hk=>hS.kept hk.1 hk.2;go_enter Tryz.func28,Tryz.ntmps28;go_wp2_with fail
 go_region_held3 (fun W2=>W2.cell? ⟨ob,0,none⟩=some (.pointer (some ⟨sb,0,none⟩))/\W2.cell? ⟨B,1,none⟩=some (I a)/\W2.cell? ⟨B,4,none⟩=some (I n)/\W2.cell? ⟨B,5,none⟩=some (I m)) (first | exact⟨hS.1.1,hS.2.2.1,hS.2.2.2.2.2.1,hS.2.2.2.2.2.2.1⟩ | exact⟨eo.1.1,eo.2.2.1,eo.2.2.2.2.2.1,eo.2.2.2.2.2.2.1⟩) (first | (go_at_call 46;refine af.mono ?_;rintro e w9 ⟨x9,y9,rfl,nP,pF⟩;have eo:=oG w9 pF) | fail)
 all_goals
  go_wp2_with fail
  go_ret2
  exact⟨x9,y9,rfl,nP⟩
theorem cV (W:World) (ob sb:Nat) (wv:Value) (a b c n m:Int) (bl:Value) (R:Int->Int->World->Prop) (h0:W.cell? ⟨ob,0,none⟩=some (.pointer (some ⟨sb,0,none⟩))) (h1:W.cell? ⟨ob,1,none⟩=some wv)
 (af:Calls Tryz.prog 47 #[.pointer (some ⟨sb,0,none⟩),I a,.int .u16 (IntKind.u16.wrap b),I c] (yC W 2 a b c n m bl) (Two fun x y w'=>R x y w'/\xE (yC W 2 a b c n m bl) ob W.heap.size w')) :
 Calls Tryz.prog 28 #[.pointer (some ⟨ob,0,none⟩),yo 2 a b c n m bl] W (Two R):=by
 unfold yC at af;unfold yo;have hS:=y7 h0 h1 2 a b c n m bl;generalize hB:W.heap.size=B at hS af;have oG:∀w',xE ((W.alloc (.cells #[I 2,I a,I b,I c,I n,I m,bl] 35)).drew) ob B w'->qT w' ob B (.pointer (some ⟨sb,0,none⟩)) wv 2 a b c n m bl:=fun w' hk=>hS.kept hk.1 hk.2;go_enter Tryz.func28,Tryz.ntmps28;go_wp2_with fail
 go_region_held3 (fun W2=>W2.cell? ⟨ob,0,none⟩=some (.pointer (some ⟨sb,0,none⟩))/\W2.cell? ⟨B,1,none⟩=some (I a)/\W2.cell? ⟨B,2,none⟩=some (I b)/\W2.cell? ⟨B,3,none⟩=some (I c)) (first | exact⟨hS.1.1,hS.2.2.1,hS.2.2.2.1,hS.2.2.2.2.1⟩ | exact⟨eo.1.1,eo.2.2.1,eo.2.2.2.1,eo.2.2.2.2.1⟩) (first | (go_at_call 47;refine af.mono ?_;rintro e w9 ⟨x9,y9,rfl,nP,pF⟩;have eo:=oG w9 pF) | fail)
 all_goals
  go_wp2_with fail
  go_ret2
  exact⟨x9,y9,rfl,nP⟩
theorem cW (W:World) (ob sb:Nat) (wv:Value) (a b c n m:Int) (bl:Value) (R:Int->World->Prop) (h0:W.cell? ⟨ob,0,none⟩=some (.pointer (some ⟨sb,0,none⟩))) (h1:W.cell? ⟨ob,1,none⟩=some wv)
 (af:Calls Tryz.prog 48 #[.pointer (some ⟨sb,0,none⟩),I a] (yC W 3 a b c n m bl) (bi fun y w'=>R y w'/\xE (yC W 3 a b c n m bl) ob W.heap.size w')) :
 Calls Tryz.prog 28 #[.pointer (some ⟨ob,0,none⟩),yo 3 a b c n m bl] W (Two fun x y w'=>x=0/\R y w'):=by
 unfold yC at af;unfold yo;have hS:=y7 h0 h1 3 a b c n m bl;generalize hB:W.heap.size=B at hS af;have oG:∀w',xE ((W.alloc (.cells #[I 3,I a,I b,I c,I n,I m,bl] 35)).drew) ob B w'->qT w' ob B (.pointer (some ⟨sb,0,none⟩)) wv 3 a b c n m bl:=fun w' hk=>hS.kept hk.1 hk.2;go_enter Tryz.func28,Tryz.ntmps28;go_wp2_with fail
 go_region_held3 (fun W2=>W2.cell? ⟨ob,0,none⟩=some (.pointer (some ⟨sb,0,none⟩))/\W2.cell? ⟨B,1,none⟩=some (I a)) (first | exact⟨hS.1.1,hS.2.2.1⟩ | exact⟨eo.1.1,eo.2.2.1⟩) (first | (go_at_call 48;refine af.mono ?_;rintro e w9 ⟨y9,rfl,nP,pF⟩;have eo:=oG w9 pF) | fail)
 all_goals
  go_wp2_with fail
  go_ret2
  exact⟨0,y9,rfl,rfl,nP⟩
theorem cU (W:World) (ob sb:Nat) (wv:Value) (a b c n m:Int) (bl:Value) (R:Int->World->Prop) (h0:W.cell? ⟨ob,0,none⟩=some (.pointer (some ⟨sb,0,none⟩))) (h1:W.cell? ⟨ob,1,none⟩=some wv)
 (af:Calls Tryz.prog 49 #[.pointer (some ⟨sb,0,none⟩),I a] (yC W 4 a b c n m bl) (bi fun y w'=>R y w'/\xE (yC W 4 a b c n m bl) ob W.heap.size w')) :
 Calls Tryz.prog 28 #[.pointer (some ⟨ob,0,none⟩),yo 4 a b c n m bl] W (Two fun x y w'=>x=0/\R y w'):=by
 unfold yC at af;unfold yo;have hS:=y7 h0 h1 4 a b c n m bl;generalize hB:W.heap.size=B at hS af;have oG:∀w',xE ((W.alloc (.cells #[I 4,I a,I b,I c,I n,I m,bl] 35)).drew) ob B w'->qT w' ob B (.pointer (some ⟨sb,0,none⟩)) wv 4 a b c n m bl:=fun w' hk=>hS.kept hk.1 hk.2;go_enter Tryz.func28,Tryz.ntmps28;go_wp2_with fail
 go_region_held3 (fun W2=>W2.cell? ⟨ob,0,none⟩=some (.pointer (some ⟨sb,0,none⟩))/\W2.cell? ⟨B,1,none⟩=some (I a)) (first | exact⟨hS.1.1,hS.2.2.1⟩ | exact⟨eo.1.1,eo.2.2.1⟩) (first | (go_at_call 49;refine af.mono ?_;rintro e w9 ⟨y9,rfl,nP,pF⟩;have eo:=oG w9 pF) | fail)
 all_goals
  go_wp2_with fail
  go_ret2
  exact⟨0,y9,rfl,rfl,nP⟩
theorem Z9 (W:World) (ob sb:Nat) (wv:Value) (a b c n m:Int) (bl:Value) (R:Int->World->Prop) (h0:W.cell? ⟨ob,0,none⟩=some (.pointer (some ⟨sb,0,none⟩))) (h1:W.cell? ⟨ob,1,none⟩=some wv)
 (af:Calls Tryz.prog 50 #[.pointer (some ⟨sb,0,none⟩),I a] (yC W 5 a b c n m bl) (bi fun y w'=>R y w'/\xE (yC W 5 a b c n m bl) ob W.heap.size w')) :
 Calls Tryz.prog 28 #[.pointer (some ⟨ob,0,none⟩),yo 5 a b c n m bl] W (Two fun x y w'=>x=0/\R y w'):=by
 unfold yC at af;unfold yo;have hS:=y7 h0 h1 5 a b c n m bl;generalize hB:W.heap.size=B at hS af;have oG:∀w',xE ((W.alloc (.cells #[I 5,I a,I b,I c,I n,I m,bl] 35)).drew) ob B w'->qT w' ob B (.pointer (some ⟨sb,0,none⟩)) wv 5 a b c n m bl:=fun w' hk=>hS.kept hk.1 hk.2;go_enter Tryz.func28,Tryz.ntmps28;go_wp2_with fail
 go_region_held3 (fun W2=>W2.cell? ⟨ob,0,none⟩=some (.pointer (some ⟨sb,0,none⟩))/\W2.cell? ⟨B,1,none⟩=some (I a)) (first | exact⟨hS.1.1,hS.2.2.1⟩ | exact⟨eo.1.1,eo.2.2.1⟩) (first | (go_at_call 50;refine af.mono ?_;rintro e w9 ⟨y9,rfl,nP,pF⟩;have eo:=oG w9 pF) | fail)
 all_goals
  go_wp2_with fail
  go_ret2
  exact⟨0,y9,rfl,rfl,nP⟩
theorem Xd (W:World) (ob sb:Nat) (wv:Value) (a b c n m:Int) (bl:Value) (R:Int->World->Prop) (h0:W.cell? ⟨ob,0,none⟩=some (.pointer (some ⟨sb,0,none⟩))) (h1:W.cell? ⟨ob,1,none⟩=some wv)
 (af:Calls Tryz.prog 51 #[.pointer (some ⟨sb,0,none⟩),I a] (yC W 6 a b c n m bl) (bi fun y w'=>R y w'/\xE (yC W 6 a b c n m bl) ob W.heap.size w')) :
 Calls Tryz.prog 28 #[.pointer (some ⟨ob,0,none⟩),yo 6 a b c n m bl] W (Two fun x y w'=>x=0/\R y w'):=by
 unfold yC at af;unfold yo;have hS:=y7 h0 h1 6 a b c n m bl;generalize hB:W.heap.size=B at hS af;have oG:∀w',xE ((W.alloc (.cells #[I 6,I a,I b,I c,I n,I m,bl] 35)).drew) ob B w'->qT w' ob B (.pointer (some ⟨sb,0,none⟩)) wv 6 a b c n m bl:=fun w' hk=>hS.kept hk.1 hk.2;go_enter Tryz.func28,Tryz.ntmps28;go_wp2_with fail
 go_region_held3 (fun W2=>W2.cell? ⟨ob,0,none⟩=some (.pointer (some ⟨sb,0,none⟩))/\W2.cell? ⟨B,1,none⟩=some (I a)) (first | exact⟨hS.1.1,hS.2.2.1⟩ | exact⟨eo.1.1,eo.2.2.1⟩) (first | (go_at_call 51;refine af.mono ?_;rintro e w9 ⟨y9,rfl,nP,pF⟩;have eo:=oG w9 pF) | fail)
 all_goals
  go_wp2_with fail
  go_ret2
  exact⟨0,y9,rfl,rfl,nP⟩
theorem cX (W:World) (ob sb:Nat) (wv:Value) (a b c n m:Int) (bl:Value) (R:Int->World->Prop) (h0:W.cell? ⟨ob,0,none⟩=some (.pointer (some ⟨sb,0,none⟩))) (h1:W.cell? ⟨ob,1,none⟩=some wv)
 (af:Calls Tryz.prog 52 #[.pointer (some ⟨sb,0,none⟩),I a,I b] (yC W 7 a b c n m bl) (bi fun y w'=>R y w'/\xE (yC W 7 a b c n m bl) ob W.heap.size w')) :
 Calls Tryz.prog 28 #[.pointer (some ⟨ob,0,none⟩),yo 7 a b c n m bl] W (Two fun x y w'=>x=0/\R y w'):=by
 unfold yC at af;unfold yo;have hS:=y7 h0 h1 7 a b c n m bl;generalize hB:W.heap.size=B at hS af;have oG:∀w',xE ((W.alloc (.cells #[I 7,I a,I b,I c,I n,I m,bl] 35)).drew) ob B w'->qT w' ob B (.pointer (some ⟨sb,0,none⟩)) wv 7 a b c n m bl:=fun w' hk=>hS.kept hk.1 hk.2;go_enter Tryz.func28,Tryz.ntmps28;go_wp2_with fail
 go_region_held3 (fun W2=>W2.cell? ⟨ob,0,none⟩=some (.pointer (some ⟨sb,0,none⟩))/\W2.cell? ⟨B,1,none⟩=some (I a)/\W2.cell? ⟨B,2,none⟩=some (I b)) (first | exact⟨hS.1.1,hS.2.2.1,hS.2.2.2.1⟩ | exact⟨eo.1.1,eo.2.2.1,eo.2.2.2.1⟩) (first | (go_at_call 52;refine af.mono ?_;rintro e w9 ⟨y9,rfl,nP,pF⟩;have eo:=oG w9 pF) | fail)
 all_goals
  go_wp2_with fail
  go_ret2
  exact⟨0,y9,rfl,rfl,nP⟩
theorem Z4 (W:World) (ob sb:Nat) (wv:Value) (a b c n m:Int) (bl:Value) (R:Int->World->Prop) (h0:W.cell? ⟨ob,0,none⟩=some (.pointer (some ⟨sb,0,none⟩))) (h1:W.cell? ⟨ob,1,none⟩=some wv)
 (af:Calls Tryz.prog 53 #[.pointer (some ⟨sb,0,none⟩),I a,.int .u16 (IntKind.u16.wrap b)] (yC W 8 a b c n m bl) (bi fun y w'=>R y w'/\xE (yC W 8 a b c n m bl) ob W.heap.size w')) :
 Calls Tryz.prog 28 #[.pointer (some ⟨ob,0,none⟩),yo 8 a b c n m bl] W (Two fun x y w'=>x=0/\R y w'):=by
 unfold yC at af;unfold yo;have hS:=y7 h0 h1 8 a b c n m bl;generalize hB:W.heap.size=B at hS af;have oG:∀w',xE ((W.alloc (.cells #[I 8,I a,I b,I c,I n,I m,bl] 35)).drew) ob B w'->qT w' ob B (.pointer (some ⟨sb,0,none⟩)) wv 8 a b c n m bl:=fun w' hk=>hS.kept hk.1 hk.2;go_enter Tryz.func28,Tryz.ntmps28;go_wp2_with fail
 go_region_held3 (fun W2=>W2.cell? ⟨ob,0,none⟩=some (.pointer (some ⟨sb,0,none⟩))/\W2.cell? ⟨B,1,none⟩=some (I a)/\W2.cell? ⟨B,2,none⟩=some (I b)) (first | exact⟨hS.1.1,hS.2.2.1,hS.2.2.2.1⟩ | exact⟨eo.1.1,eo.2.2.1,eo.2.2.2.1⟩) (first | (go_at_call 53;refine af.mono ?_;rintro e w9 ⟨y9,rfl,nP,pF⟩;have eo:=oG w9 pF) | fail)
 all_goals
  go_wp2_with fail
  go_ret2
  exact⟨0,y9,rfl,rfl,nP⟩
theorem Z7 (W:World) (ob sb:Nat) (wv:Value) (a b c n m:Int) (bl:Value) (R:Int->World->Prop) (h0:W.cell? ⟨ob,0,none⟩=some (.pointer (some ⟨sb,0,none⟩))) (h1:W.cell? ⟨ob,1,none⟩=some wv)
 (af:Calls Tryz.prog 54 #[.pointer (some ⟨sb,0,none⟩),I a,I b] (yC W 9 a b c n m bl) (bi fun y w'=>R y w'/\xE (yC W 9 a b c n m bl) ob W.heap.size w')) :
 Calls Tryz.prog 28 #[.pointer (some ⟨ob,0,none⟩),yo 9 a b c n m bl] W (Two fun x y w'=>x=0/\R y w'):=by
 unfold yC at af;unfold yo;have hS:=y7 h0 h1 9 a b c n m bl;generalize hB:W.heap.size=B at hS af;have oG:∀w',xE ((W.alloc (.cells #[I 9,I a,I b,I c,I n,I m,bl] 35)).drew) ob B w'->qT w' ob B (.pointer (some ⟨sb,0,none⟩)) wv 9 a b c n m bl:=fun w' hk=>hS.kept hk.1 hk.2;go_enter Tryz.func28,Tryz.ntmps28;go_wp2_with fail
 go_region_held3 (fun W2=>W2.cell? ⟨ob,0,none⟩=some (.pointer (some ⟨sb,0,none⟩))/\W2.cell? ⟨B,1,none⟩=some (I a)/\W2.cell? ⟨B,2,none⟩=some (I b)) (first | exact⟨hS.1.1,hS.2.2.1,hS.2.2.2.1⟩ | exact⟨eo.1.1,eo.2.2.1,eo.2.2.2.1⟩) (first | (go_at_call 54;refine af.mono ?_;rintro e w9 ⟨y9,rfl,nP,pF⟩;have eo:=oG w9 pF) | fail)
 all_goals
  go_wp2_with fail
  go_ret2
  exact⟨0,y9,rfl,rfl,nP⟩
theorem Xe (W:World) (ob sb:Nat) (wv:Value) (a b c n m:Int) (bl:Value) (R:Int->Int->World->Prop) (h0:W.cell? ⟨ob,0,none⟩=some (.pointer (some ⟨sb,0,none⟩))) (h1:W.cell? ⟨ob,1,none⟩=some wv)
 (af:Calls Tryz.prog 55 #[.pointer (some ⟨sb,0,none⟩),I a] (yC W 10 a b c n m bl) (Two fun x y w'=>R x y w'/\xE (yC W 10 a b c n m bl) ob W.heap.size w')) :
 Calls Tryz.prog 28 #[.pointer (some ⟨ob,0,none⟩),yo 10 a b c n m bl] W (Two R):=by
 unfold yC at af;unfold yo;have hS:=y7 h0 h1 10 a b c n m bl;generalize hB:W.heap.size=B at hS af;have oG:∀w',xE ((W.alloc (.cells #[I 10,I a,I b,I c,I n,I m,bl] 35)).drew) ob B w'->qT w' ob B (.pointer (some ⟨sb,0,none⟩)) wv 10 a b c n m bl:=fun w' hk=>hS.kept hk.1 hk.2;go_enter Tryz.func28,Tryz.ntmps28;go_wp2_with fail
 go_region_held3 (fun W2=>W2.cell? ⟨ob,0,none⟩=some (.pointer (some ⟨sb,0,none⟩))/\W2.cell? ⟨B,1,none⟩=some (I a)) (first | exact⟨hS.1.1,hS.2.2.1⟩ | exact⟨eo.1.1,eo.2.2.1⟩) (first | (go_at_call 55;refine af.mono ?_;rintro e w9 ⟨x9,y9,rfl,nP,pF⟩;have eo:=oG w9 pF) | fail)
 all_goals
  go_wp2_with fail
  go_ret2
  exact⟨x9,y9,rfl,nP⟩
theorem Z8 (W:World) (ob sb:Nat) (wv:Value) (a b c n m:Int) (bl:Value) (R:Int->World->Prop) (h0:W.cell? ⟨ob,0,none⟩=some (.pointer (some ⟨sb,0,none⟩))) (h1:W.cell? ⟨ob,1,none⟩=some wv)
 (af:Calls Tryz.prog 56 #[.pointer (some ⟨sb,0,none⟩),I n] (yC W 11 a b c n m bl) (bi fun y w'=>R y w'/\xE (yC W 11 a b c n m bl) ob W.heap.size w')) :
 Calls Tryz.prog 28 #[.pointer (some ⟨ob,0,none⟩),yo 11 a b c n m bl] W (Two fun x y w'=>x=0/\R y w'):=by
 unfold yC at af;unfold yo;have hS:=y7 h0 h1 11 a b c n m bl;generalize hB:W.heap.size=B at hS af;have oG:∀w',xE ((W.alloc (.cells #[I 11,I a,I b,I c,I n,I m,bl] 35)).drew) ob B w'->qT w' ob B (.pointer (some ⟨sb,0,none⟩)) wv 11 a b c n m bl:=fun w' hk=>hS.kept hk.1 hk.2;go_enter Tryz.func28,Tryz.ntmps28;go_wp2_with fail
 go_region_held3 (fun W2=>W2.cell? ⟨ob,0,none⟩=some (.pointer (some ⟨sb,0,none⟩))/\W2.cell? ⟨B,4,none⟩=some (I n)) (first | exact⟨hS.1.1,hS.2.2.2.2.2.1⟩ | exact⟨eo.1.1,eo.2.2.2.2.2.1⟩) (first | (go_at_call 56;refine af.mono ?_;rintro e w9 ⟨y9,rfl,nP,pF⟩;have eo:=oG w9 pF) | fail)
 all_goals
  go_wp2_with fail
  go_ret2
  exact⟨0,y9,rfl,rfl,nP⟩
end
end Go.Proofs.YtoiajjobecinpaaGreat
namespace Go.Proofs.YtoiajjobecinpaaGreat
set_option linter.unusedSimpArgs false
open Go.RowKit Go.Shelf Go.Lib Go.Proofs
set_option linter.unusedVariables false
theorem qw {F:Fence} {n0:Nat} {P:Program} (w:World) {ops:Array Oper} {rest:List Oper} {o:Oper} {a:Act} {Q:Exit->Act->World->Prop} (BA:o.guard=none) (s x:Operand) (t:TypeId)
 (ho:o.op=.call {callee:=.builtin .append,args:=#[s,x],argTypes:=#[t,t]})
 (base:Nat) (e:TypeId) (i:TypeInfo) (z:Value) (size bytes:Nat) (ht:P.underlying t=some (.slice e)) (hi:P.info? e=some i) (hz:i.zero=some z)
 (JL:i.size=size) (Cm:i.bytes=bytes) (Cb:z.cells.size=size) (mH:0<size)
 (v:Value) (n:Nat) (xs:List Value) (hs:a.eval s=v) (al:w.ownsRow base e size v n xs)
 (ad:Addr) (m c:Nat) (news:List Value) (hx:a.eval x=.slice (some ad) m c) (hl:news.length=m*size) (pi:∀j u,news[j]? = some u->w.cell? (ad.add j)=some u) (h1:∀u∈news,u.oneCell'=true)
 (hm:0<m) (Sj:n+m<=maxLen) (Fg:(n+m)*bytes<=140737488355328) (eC:base<=w.heap.size) (H:Nat) (hH:w.heap.size=H)
 (h:∀g cap w',w'.ownsRow base e size (.slice (some ⟨g,0,none⟩) (n+m) cap) (n+m) (xs++news)->w.grownBy w' v.ownBlock->(v.ownBlock=some g\/g=H)->g<w'.heap.size->wpListIn F n0 P ops Q rest (a.put o.dst (.slice (some ⟨g,0,none⟩) (n+m) cap)) w') :
 wpListIn F n0 P ops Q (o::rest) a w:=by
 refine wpListIn_plain BA fun K hK=>?_;obtain⟨g,cap,w',hr,h2,h3,h4,h5⟩:=run_append_lies (P:=P) w t o.type base e i z size bytes ht hi hz JL Cm Cb mH v n xs al ad m c news hl pi h1 hm Sj Fg eC H hH;unfold Oper.wpIn;refine⟨by simp[Oper.about,ho,resolve,Target.leads,Sem.run_pure],?_⟩;rw[Oper.semAt_plain F _ _ (by rw[ho];intro c Fh;cases Fh)];simp[execOp,ho,resolve,invoke,builtin,hs,hx,hr,Result.andThen]
 exact hK _ _ (h g cap w' h2 h3 h4 h5)
end Go.Proofs.YtoiajjobecinpaaGreat
