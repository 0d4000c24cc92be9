/- A state that is being told: five rows. All loads; the core with the least. All tasks are told. A sta -/
import Derived.Test.YtoiajjobecinpaaGreatTM15
import Derived.Test.YtoiajjobecinpaaGreatTM16
set_option maxHeartbeats 4000000
set_option maxRecDepth 100000
namespace Go.Proofs.YtoiajjobecinpaaGreat
open Go.RowKit Go.Shelf Go.Lib Go.Proofs
set_option linter.unusedVariables false
set_option linter.unusedSimpArgs false
section
attribute [local go_sem] Oper.semAt_some
def rty:Nat->TypeId
 | 0=>3
 | 1=>70
 | 2=>60
 | _=>2
def rsz:Nat->Nat
 | 0=>1
 | 1=>2
 | 2=>7
 | _=>1
structure StA (H:Nat) (W:World) (B:Nat) (vs:Nat->Value) (cnt:Nat->Nat) (xs:Nat->List Value) (P:Nat->Prop):Prop where
 cell:∀i,i<5->W.cell? ⟨B,i,none⟩=some (vs i)
 live:∀i,W.frozen? ⟨B,i,none⟩=false
 row:∀i,i<5->W.ownsRow H (rty i) (rsz i) (vs i) (cnt i) (xs i)
 apart:∀i j k,i<5->j<5->i≠j->(vs i).ownBlock=some k->(vs j).ownBlock≠some k
 box:B<H
 lt:H<=W.heap.size
 free:∀k,P k->k<W.heap.size/\k≠B/\∀i,i<5->(vs i).ownBlock≠some k
theorem StA.same {H:Nat} {W W':World} {B:Nat} {vs:Nat->Value} {cnt:Nat->Nat} {xs:Nat->List Value} {P:Nat->Prop} (h:StA H W B vs cnt xs P) (hb:Below W.heap.size W W'):StA H W' B vs cnt xs P:=by
 have hB:B<W.heap.size:=Nat.lt_of_lt_of_le h.box h.lt;exact⟨fun i hi=>(World.cell?_of_block (a:=⟨B,i,none⟩) (hb.block B hB)).trans (h.cell i hi),fun i=>(World.frozen?_of_block (a:=⟨B,i,none⟩) (hb.block B hB)).trans (h.live i),
  fun i hi=>zb (h.row i hi) (fun k hk=>hb.block k ((h.row i hi).lt k hk).2),h.apart,h.box,Nat.le_trans h.lt hb.size,fun k hk=>⟨Nat.lt_of_lt_of_le (h.free k hk).1 hb.size,(h.free k hk).2⟩⟩
theorem StA.more {H:Nat} {W:World} {B:Nat} {vs:Nat->Value} {cnt:Nat->Nat} {xs:Nat->List Value} {P P':Nat->Prop} (h:StA H W B vs cnt xs P)
 (hP:∀k,P' k->P k\/(k<W.heap.size/\k≠B/\∀i,i<5->(vs i).ownBlock≠some k)):StA H W B vs cnt xs P':=
 ⟨h.cell,h.live,h.row,h.apart,h.box,h.lt,fun k hk=>(hP k hk).elim (h.free k) id⟩
def yw {α:Type} (vs:Nat->α) (i:Nat) (v:α):Nat->α:=fun j=>if j=i then v else vs j
theorem StA.put {H:Nat} {W:World} {B:Nat} {vs:Nat->Value} {cnt:Nat->Nat} {xs:Nat->List Value} {P:Nat->Prop} (h:StA H W B vs cnt xs P) {i:Nat} (hi:i<5) {v:Value} {n:Nat} {ys:List Value} (hr:W.ownsRow H (rty i) (rsz i) v n ys)
 (hv:∀k,v.ownBlock=some k->(∀j,j<5->j≠i->(vs j).ownBlock≠some k)/\¬P k) :
 StA H (W.setCell ⟨B,i,none⟩ v) B (yw vs i v) (yw cnt i n) (yw xs i ys) P:=by
 have hb:∀k,k≠B->(W.setCell ⟨B,i,none⟩ v).heap[k]? = W.heap[k]?:=fun k hk=>Below.heap_setCell _ _ _ _ hk;have aJ:=h.box;refine⟨fun j hj=>?_,fun j=>by rw[World.frozen?_setCell];exact h.live j,fun j hj=>?_,fun a b k ha l7 LG hk=>?_,h.box,by simp;exact h.lt,fun k hk=>⟨by simp;exact(h.free k hk).1,(h.free k hk).2.1,fun j hj=>?_⟩⟩
 · unfold yw;by_cases e:j=i
   · subst e;rw[if_pos rfl];exact World.cell?_setCell_same _ _ _ (h.cell j hj)
   · rw[if_neg e,za _ (by intro e2;injection e2;omega)];exact h.cell j hj
 · unfold yw;by_cases e:j=i
   · subst e;rw[if_pos rfl,if_pos rfl,if_pos rfl];exact zb hr (fun k hk=>hb k (by have:=(hr.lt k hk).1;omega))
   · rw[if_neg e,if_neg e,if_neg e];exact zb (h.row j hj) (fun k hk=>hb k (by have:=((h.row j hj).lt k hk).1;omega))
 · unfold yw at hk⊢;by_cases ea:a=i
   · rw[if_pos ea] at hk;rw[if_neg (by omega)];exact(hv k hk).1 b l7 (by omega)
   · rw[if_neg ea] at hk;by_cases eb:b=i
     · rw[if_pos eb];intro e;exact(hv k e).1 a ha ea hk
     · rw[if_neg eb];exact h.apart a b k ha l7 LG hk
 · unfold yw;by_cases e:j=i
   · rw[if_pos e];intro e2;exact(hv k e2).2 hk
   · rw[if_neg e];exact(h.free k hk).2.2 j hj
theorem StA.step {H:Nat} {W w4:World} {B:Nat} {vs:Nat->Value} {cnt:Nat->Nat} {xs:Nat->List Value} {P:Nat->Prop} (h:StA H W B vs cnt xs P) {i:Nat} (hi:i<5) {g cap:Nat} {news:List Value} {o:Obj}
 (hg:(W.alloc o).grownBy w4 (vs i).ownBlock) (al:w4.ownsRow H (rty i) (rsz i) (.slice (some ⟨g,0,none⟩) (cnt i+1) cap) (cnt i+1) (xs i++news)) (aE:(vs i).ownBlock=some g\/g=W.heap.size+1) :
 (w4.cell? ⟨B,i,none⟩=some (vs i)/\w4.frozen? ⟨B,i,none⟩=false) /\
 StA H (w4.setCell ⟨B,i,none⟩ (.slice (some ⟨g,0,none⟩) (cnt i+1) cap)) B (yw vs i (.slice (some ⟨g,0,none⟩) (cnt i+1) cap)) (yw cnt i (cnt i+1)) (yw xs i (xs i++news)) P /\
 (∀k,k<W.heap.size->k≠B->(vs i).ownBlock≠some k->(w4.setCell ⟨B,i,none⟩ (.slice (some ⟨g,0,none⟩) (cnt i+1) cap)).heap[k]? = W.heap[k]?) /\
 Below (B) W (w4.setCell ⟨B,i,none⟩ (.slice (some ⟨g,0,none⟩) (cnt i+1) cap)):=by
 have aJ:=h.box;have ah:=h.lt;have hz:=hg.size;simp only[World.size_alloc] at hz;have LX:∀j,j<5->∀k,(vs j).ownBlock=some k->H<=k/\k<W.heap.size:=fun j hj k hk=>(h.row j hj).lt k hk;have em:∀k,k<W.heap.size->(vs i).ownBlock≠some k->w4.heap[k]? = W.heap[k]?:=fun k hk h2=>by
  rw[hg.block k (by simp;omega) (fun e=>h2 e.symm),Below.heap_alloc _ _ _ hk]
 have Hk:w4.heap[B]? = W.heap[B]?:=em B (by omega) (fun e=>by have:=(LX i hi B e).1;omega);have h4:StA H w4 B (yw vs i (vs i)) (yw cnt i (cnt i)) (yw xs i (xs i)) P->True:=fun _=>trivial;have lq:∀k,k≠B->(w4.setCell ⟨B,i,none⟩ (.slice (some ⟨g,0,none⟩) (cnt i+1) cap)).heap[k]? = w4.heap[k]?:=fun k hk=>Below.heap_setCell _ _ _ _ hk;have Iu:∀j,j<5->j≠i->(vs j).ownBlock≠some g:=fun j hj pE e=>by
  rcases aE with h5 | h5
  · exact h.apart i j g hi hj (by omega) h5 e
  · have:=(LX j hj g e).2;omega
 refine⟨⟨(World.cell?_of_block (a:=⟨B,i,none⟩) Hk).trans (h.cell i hi),(World.frozen?_of_block (a:=⟨B,i,none⟩) Hk).trans (h.live i)⟩,⟨fun j hj=>?_,fun j=>?_,fun j hj=>?_,fun a b k ha l7 LG hk=>?_,h.box,by simp;omega,fun k hk=>⟨by have:=(h.free k hk).1;simp;omega,(h.free k hk).2.1,fun j hj=>?_⟩⟩,fun k hk h1 h2=>(lq k h1).trans (em k hk h2),?_⟩
 · unfold yw;by_cases e:j=i
   · subst e;rw[if_pos rfl];exact World.cell?_setCell_same _ _ _ ((World.cell?_of_block (a:=⟨B,j,none⟩) Hk).trans (h.cell j hj))
   · rw[if_neg e,za _ (by intro e2;injection e2;omega)];exact(World.cell?_of_block (a:=⟨B,j,none⟩) Hk).trans (h.cell j hj)
 · rw[World.frozen?_setCell];exact(World.frozen?_of_block (a:=⟨B,j,none⟩) Hk).trans (h.live j)
 · unfold yw;by_cases e:j=i
   · subst e;rw[if_pos rfl,if_pos rfl,if_pos rfl];exact zb al (fun k hk=>lq k (by have:=(al.lt k hk).1;omega))
   · rw[if_neg e,if_neg e,if_neg e];refine zb (h.row j hj) (fun k hk=>?_);have h6:=LX j hj k hk;rw[lq k (by omega),em k h6.2 (fun e2=>h.apart i j k hi hj (by omega) e2 hk)]
 · unfold yw at hk⊢;by_cases ea:a=i
   · rw[if_pos ea] at hk;have:g=k:=by simpa [Value.ownBlock] using hk
     subst this;rw[if_neg (by omega)];exact Iu b l7 (by omega)
   · rw[if_neg ea] at hk;by_cases eb:b=i
     · rw[if_pos eb];intro e;have:g=k:=by simpa [Value.ownBlock] using e
       subst this;exact Iu a ha ea hk
     · rw[if_neg eb];exact h.apart a b k ha l7 LG hk
 · unfold yw;obtain⟨f1,f2,f3⟩:=h.free k hk;by_cases e:j=i
   · rw[if_pos e];intro e2;have:g=k:=by simpa [Value.ownBlock] using e2
     subst this;rcases aE with h5 | h5
     · exact f3 i hi h5
     · omega
   · rw[if_neg e];exact f3 j hj
 · refine⟨hg.os,hg.tape,hg.output,by simp;omega,fun k hk=>?_⟩;rw[lq k (by omega),em k (by omega) (fun e=>by have:=(LX i hi k e).1;omega)]
def KL (s:Sy) (id:Int) (xs:List G16) (w:World) (e:Ending) (W':World):Prop:=
 Below w.heap.size w W'/\((xs=[]/\e=.returned (.tuple #[.agg #[I 0,I 0,I 0,I 0],I 2])) \/
  (xs≠[]/\e=.returned (.tuple #[.agg #[I (s.acc.getD id.toNat default).1,I (s.acc.getD id.toNat default).2.1,I (s.acc.getD id.toNat default).2.2.1,I (s.acc.getD id.toNat default).2.2.2],I 0])))
theorem kN {W:World} {B:Nat} {a b c d:Value} {t:TypeId} (h:W.heap[B]? = some (.cells #[a,b,c,d] t (0,0))) :
 (W.cell? ⟨B,0,none⟩=some a/\W.cell? ⟨B,1,none⟩=some b/\W.cell? ⟨B,2,none⟩=some c/\W.cell? ⟨B,3,none⟩=some d)/\(∀i,W.frozen? ⟨B,i,none⟩=false) /\
 ∀a' b' c' d',((((W.setCell ⟨B,0,none⟩ a').setCell ⟨B,1,none⟩ b').setCell ⟨B,2,none⟩ c').setCell ⟨B,3,none⟩ d').heap[B]? = some (.cells #[a',b',c',d'] t (0,0)):=by
 refine⟨⟨?_,?_,?_,?_⟩,fun i=>by simp only[World.frozen?,h];simp,fun a' b' c' d'=>?_⟩
 · simp only[World.cell?,h];rfl
 · simp only[World.cell?,h];rfl
 · simp only[World.cell?,h];rfl
 · simp only[World.cell?,h];rfl
 · simp[World.setCell,Array.getElem?_modify,h]
theorem VR (sb gb nb pb mb n:Nat) (cv:Value) (D:DataW Unit) (cbs:List Nat) (tb:Int->Nat) (own:Nat->Option Own) (s:Sy) (id:Int) (xs:List G16) (W:World) (h:SysAt W sb gb nb pb mb n cv D cbs tb own s)
 (hL:zq s.gs id xs) (ag:xs.length<=1000) :
 Calls Tryz.prog 91 #[.pointer (some ⟨sb,0,none⟩),I id] W (KL s id xs W):=by
 have en:Below W.heap.size W (W.alloc (.cells #[I 0,I 0,I 0,I 0] 119)):=(Below.refl _ W).alloc (Nat.le_refl _) _;have mh:=vx gb s.gs id xs _ (h.below en).groups hL ag;have c1:=(h.below en).c1;have aJ:=heap_alloc_new W (.cells #[I 0,I 0,I 0,I 0] 119);have nf:(xs=[]/\xs.length=0)\/(xs≠[]/\xs.length≠0/\∃k:Nat,id=(k:Int)/\k<16):=by
  cases xs with
  | nil=>exact .inl ⟨rfl,rfl⟩
  | cons x t=>
   refine .inr ⟨by simp,by simp,?_⟩;obtain⟨hx,_,_⟩:=hL;have:=x.2;exact⟨id.toNat,by omega,by omega⟩
 have HS:=lH h;have lF:=lH en;have HX:=lH aJ;unfold KL;obtain⟨q,hq⟩:∃q,s.acc.getD id.toNat default=q:=⟨_,rfl⟩
 rw[hq];have HQ:=lH hq;generalize hn:xs.length=m at mh nf;clear h hL ag en aJ hn hq;go_enter Tryz.func91,Tryz.ntmps91;go_wp2_with fail
 refine mh.mono ?_;rintro e w1 ⟨rfl,ab⟩;have ia:=(ab.block W.heap.size (by simp)).trans HX.out;obtain⟨⟨x0,x1,x2,x3⟩,xf,xput⟩:=kN ia;have xf0:=xf 0;have xf1:=xf 1;have xf2:=xf 2;have xf3:=xf 3;have Ao:=lH xput;have ef:=lH (lF.out.trans (ab.mono lF.out.size));clear ia xput xf;rcases nf with⟨i7,hm⟩ | ⟨i7,hm,k,rfl,hk⟩
 · subst hm;have oQ:=lH i7;clear i7;go_wp2_with fail
   obtain⟨⟨g0,g1,g2,g3⟩,-,-⟩:=kN (Ao.out (I 0) (I 0) (I 0) (I 0));refine bodyPost_ret (v:=.tuple #[.agg #[I 0,I 0,I 0,I 0],I 2]) (by simp[results,Tryz.results91,go_sem,g0,g1,g2,g3]) rfl ⟨(((ef.out.setCell (by simp) _).setCell (by simp) _).setCell (by simp) _).setCell (by simp) _,.inl ⟨oQ.out,rfl⟩⟩
 · have eu:=HS.out.below ef.out;obtain⟨a0,a1,a2,a3⟩:=eu.acc k hk;have pZ:=HQ.out;rw[Int.toNat_natCast] at pZ;rw[pZ] at a0 a1 a2 a3;clear pZ HQ;have Cn:(k:Int)<16:=by omega
   have aX:(0:Int)<=(k:Int):=by omega
   have AY:((m:Int)==0)=false:=by simp;omega
   obtain⟨q0,q1,q2,q3⟩:=q;simp only at a0 a1 a2 a3;have oQ:=lH i7;clear i7 hm eu ab c1;have c1:=(HS.out.below ef.out).c1;go_wp2_with fail
   obtain⟨⟨g0,g1,g2,g3⟩,-,-⟩:=kN (Ao.out (I q0) (I q1) (I q2) (I q3));refine bodyPost_ret (v:=.tuple #[.agg #[I q0,I q1,I q2,I q3],I 0]) (by simp[results,Tryz.results91,go_sem,g0,g1,g2,g3]) rfl ⟨(((ef.out.setCell (by simp) _).setCell (by simp) _).setCell (by simp) _).setCell (by simp) _,.inr ⟨oQ.out,rfl⟩⟩
end
theorem U1:(Tryz.prog.info? 2).map (fun i=>(i.zero,i.size,i.bytes))=some (some (I 0),1,8):=by kernel_rfl
def xT (s:Sy):Prop:=∀i,i<s.cores.length->yn s.cores[i]!.l
def zj (s:Sy):List Int:=s.cores.map fun c=>vn (zw c.l)
theorem us {W:World} {base:Nat} {v:Value} {xs:List Int} (h:W.ownsRow base 2 1 v xs.length (xs.map fun x=>I x)) (ay:0<xs.length) :
 ∃g c,v=.slice (some ⟨g,0,none⟩) xs.length c/\∀i,i<xs.length->W.cell? ⟨g,i,none⟩=some (I (xs.getD i 0)):=by
 rcases h.2 with⟨_,h0⟩ | ⟨g,cap,cur,e,_⟩
 · rw[h0] at ay;simp at ay
 · refine⟨g,cap,e,fun i hi=>?_⟩;have:=h.cells (g:=g) (by rw[e];rfl) i (I (xs.getD i 0)) (by rw[List.getElem?_map,List.getElem?_eq_getElem hi];simp[hi]);simpa [Addr.add_lit] using this
theorem dH (sb gb nb pb mb n:Nat) (cv:Value) (D:DataW Unit) (cbs:List Nat) (tb:Int->Nat) (own:Nat->Option Own) (s:Sy) (w:World)
 (h:SysAt w sb gb nb pb mb n cv D cbs tb own s) (hf:xT s) (h0:0<cbs.length) (nd:cbs.length<=16) :
 Calls Tryz.prog 120 #[.pointer (some ⟨sb,0,none⟩)] w fun e W'=>∃v,e=.returned v/\W'.ownsRow w.heap.size 2 1 v cbs.length ((zj s).map fun x=>I x)/\Below w.heap.size w W':=by
 obtain⟨g,c,aQ⟩:=h.form h0;subst aQ;have c0:=h.head;obtain⟨i0,hi,eG,aI,et⟩:=info_parts U1;have HS:=lH h;have HF:=lH hf;obtain⟨m,hm⟩:∃m,cbs.length=m:=⟨_,rfl⟩
 rw[hm] at c0 h0 nd⊢;have HM:=lH hm;clear h hf hm;go_enter Tryz.func120,Tryz.ntmps120;go_wp2_with fail
 go_loopw [3,11] (fun a x wr=>∃k:Nat,k<=m/\x=I k/\Hid (wr.ownsRow w.heap.size 2 1 a k (((zj s).take k).map fun x=>I x))/\Hid (Below w.heap.size w wr)) (fun _ x _=>m-(intOf x).toNat)
 case atStart=>exact⟨0,Nat.zero_le _,rfl,lH (World.ownsRow_nil ..),lH (Below.refl _ _)⟩
 case round=>
  obtain⟨k,hk,rfl,HR,HB⟩:=hrel;by_cases aS:k<m
  · have hS:=HS.out.below HB.out;have Ii:=hS.coreCell k (by rw[HM.out];exact aS);have iI:k<s.cores.length:=by rw[<- hS.num,HM.out];exact aS
    have Ag:=XP cbs[k]! _ s.cores[k]! wr (hS.core k (by rw[HM.out];exact aS)) (HF.out k iI);have aO:(zj s).take (k+1)=(zj s).take k++[vn (zw s.cores[k]!.l)]:=by
     unfold zj;rw[List.take_succ_eq_append_getElem (by rw[List.length_map];exact iI),List.getElem_map,getElem!_pos s.cores k iI]
    generalize vn (zw s.cores[k]!.l)=y at Ag aO;generalize cbs[k]! = cb at Ii Ag;have HN:=lH aO;have iY:(k:Int)<(m:Int):=by omega
    have aX:0<=(k:Int):=by omega
    clear hS iI aO;go_wp2_with fail
    refine Ag.mono ?_;rintro e w3 ⟨rfl,aK⟩;have lE:=aK.size;have aL:=zb HR.out (fun j hj=>aK.block j (HR.out.lt j hj).2);have oH:=HB.out.size;clear Ag;go_wp2_with (at_builtin;refine wpList_append_lies _ rfl _ _ 42 rfl w.heap.size 2 i0 (I 0) 1 8 Tryz.underlying42 hi eG aI et rfl (by decide) _ k _ rfl (aL.alloc _) ⟨w3.heap.size,0,none⟩ 1 1 [I y] rfl rfl (World.news_of_block (cs:=#[I y]) (t:=2) (fr:=(0,0)) (heap_alloc_new w3 _)) (by simp[Value.oneCell']) (by omega) (by unfold maxLen;omega) (by omega) (by simp;omega) (w3.heap.size+1) (by simp) ?_;intro g cap w4 aV aq eW ln)
    have hr:w4.ownsRow w.heap.size 2 1 (.slice (some ⟨g,0,none⟩) (k+1) cap) (k+1) (((zj s).take (k+1)).map fun x=>I x):=by
     rw[HN.out,List.map_append];exact aV
    have Ap:=lH hr;have AQ:Hid (Below w.heap.size w w4):=lH (((HB.out.trans (aK.mono oH)).alloc (by omega) _).grown aq (by simp;omega) (fun j hj=>(aL.lt j hj).1));clear hr aV aq eW ln aL lE oH aK;go_roundw
    case rel=>exact⟨k+1,aS,by go_num,Ap,AQ⟩
    case measure=>simp[intOf];omega
  · obtain rfl:k=m:=by omega
    have aM:(zj s).take k=zj s:=List.take_of_length_le (by unfold zj;rw[List.length_map,<- HS.out.num,HM.out];exact Nat.le_refl _);rw[aM] at HR;clear aM;go_wp2_with fail
    go_ret
    exact⟨_,rfl,HR.out,HB.out⟩
theorem kF (sb gb nb pb mb n:Nat) (cv:Value) (D:DataW Unit) (cbs:List Nat) (tb:Int->Nat) (own:Nat->Option Own) (s:Sy) (m:Int) (w:World)
 (h:SysAt w sb gb nb pb mb n cv D cbs tb own s) (hf:xT s) (h0:0<cbs.length) (nd:cbs.length<=16) (hm:0<=m/\m<65536) :
 Calls Tryz.prog 103 #[.pointer (some ⟨sb,0,none⟩),.int .u16 m] w fun e W'=>e=.returned (I (zD (zj s) m).1)/\Below w.heap.size w W':=by
 have hl:=dH sb gb nb pb mb n cv D cbs tb own s w h hf h0 nd;have ag:(zj s).length=cbs.length:=by unfold zj;rw[List.length_map,h.num]
 generalize zj s=ls at hl ag⊢;rw[<- ag] at hl h0 nd;clear h hf ag;go_enter Tryz.func103,Tryz.ntmps103;go_wp2_with fail
 refine hl.mono ?_;rintro e w1 ⟨v,rfl,aa,hb⟩;obtain⟨g,c,hv,ap⟩:=us aa h0;subst hv;have tI:=fd g c ls m w1 hm nd ap;go_wp2_with fail
 refine tI.mono ?_;rintro e w2 ⟨rfl,ar⟩;go_wp2_with fail
 go_ret
 exact⟨rfl,hb.trans (ar.mono hb.size)⟩
section
attribute [local go_sem] Oper.semAt_some
theorem Jb:(Tryz.prog.info? 60).map (fun i=>(i.zero,i.size,i.bytes))=some (some (.agg #[I 0,I 0,I 0,I 0,I 0,.int .u16 0,I 0]),7,56):=by kernel_rfl
def yD (s:Sy) (x:Int):Tk:=gm s ((s.tasks x).getD default)
def ZK (s:Sy):Prop:=∀x t,s.tasks x=some t->t.state=2->∃i:Nat,t.core=(i:Int)/\i<s.cores.length
theorem Q9 (sb gb nb pb mb n:Nat) (cv:Value) (D:DataW Unit) (cbs:List Nat) (tb:Int->Nat) (own:Nat->Option Own) (s:Sy) (id:Int) (t:Tk) (W:World) (h:SysAt W sb gb nb pb mb n cv D cbs tb own s)
 (h1:-9223372036854775808<=id) (h2:id<=9223372036854775807) (ht:s.tasks id=some t) (hid:t.id=id) (hr:ZK s) (hf:xT s) :
 Calls Tryz.prog 142 #[.pointer (some ⟨sb,0,none⟩),I id] W (dr s t W):=by
 by_cases aG:t.state=2
 · obtain⟨i,hi,eB⟩:=hr id t ht aG;exact Xh sb gb nb pb mb n cv D cbs tb own s id t i W h h1 h2 ht aG hid hi (by rw[h.num];exact eB) (hf i eB)
 · exact Vx sb gb nb pb mb n cv D cbs tb own s id t W h h1 h2 ht aG
def zu (l:List Tk):List Value:=l.flatMap Tk.cells
theorem xq (a b:List Tk):zu (a++b)=zu a++zu b:=by simp[zu]
theorem uo (l:List Tk):(zu l).length=l.length*7:=by
 induction l with
 | nil=>rfl
 | cons a b ih=>simp only[zu,List.flatMap_cons,List.length_append] at ih⊢;rw[ih];simp[Tk.cells];omega
theorem Wn {B:Nat} {W W':World} (h:Below W.heap.size W W') (hB:B<W.heap.size):KpL B W W':=
 ⟨h.size,fun k o ho _ _ _=>(h.block k (yW ho)).trans ho,fun v' k hv hk=>.inl ⟨v',by rw[<- hv];exact(h.cell (p:=⟨B,0,none⟩) hB).symm,hk⟩⟩
theorem Vy (sb gb nb pb mb n:Nat) (cv:Value) (D:DataW Unit) (cbs:List Nat) (tb:Int->Nat) (own:Nat->Option Own) (s:Sy) (w:World)
 (h:SysAt w sb gb nb pb mb n cv D cbs tb own s) (hz:xj s.ps) (hd:gn s) (hr:ZK s) (hf:xT s) :
 Calls Tryz.prog 90 #[.pointer (some ⟨sb,0,none⟩)] w fun e W'=>∃v:Value,e=.returned v/\W'.ownsRow w.heap.size 60 7 v (zf s.ps).length (zu ((zf s.ps).map (yD s)))/\Below w.heap.size w W':=by
 have h1:1<=5:=by omega
 have le:=h.lt sb (by rw[h.osb];simp);have FH:=h.slots.lt;have c66:=h.c66;have nu:(zf s.ps).length<=64:=Nat.le_trans (yl _ _) hz.1;have HS:=lH h;have HD:=lH hd;have HZ:=lH hz;have HR:=lH hr;have HF:=lH hf;clear h hd hz hr hf;refine callsIn_wide.1 (callsIn_of_wp_marks (n:=5) Tryz.func90 rfl trivial (wpIn_wide.2 ?_) rfl);simp only[Tryz.ntmps90,List.size_toArray,List.length_cons,List.length_nil,Nat.reduceAdd,Nat.reduceSub,Array.replicate_succ,Array.replicate_zero,List.push_toArray,List.append_toArray,List.nil_append,List.cons_append];go_wp2_with (go_at_call 141;refine(fD nb _).mono ?_;rintro e w' ⟨rfl,rfl⟩)
 have q0:=zv w (.pointer (some ⟨sb,0,none⟩)) 81;have q1:=zv (w.alloc (.cells #[.pointer (some ⟨sb,0,none⟩)] 81)) (.slice none 0 0) 41;have q2:=zv ((w.alloc (.cells #[.pointer (some ⟨sb,0,none⟩)] 81)).alloc (.cells #[.slice none 0 0] 41)) (.pointer (some ⟨nb,0,none⟩)) 115;have f1:=zY (.cells #[.pointer (some ⟨nb,0,none⟩)] 115) q1.1 q1.2;replace q0:=c2a (.cells #[.pointer (some ⟨nb,0,none⟩)] 115) (c2a (.cells #[.slice none 0 0] 41) q0.1);replace q1:=c2a (.cells #[.pointer (some ⟨nb,0,none⟩)] 115) q1.1;replace q2:=q2.1;simp only[World.size_alloc] at q0 q1 q2 f1;have en:Below w.heap.size w (((w.alloc (.cells #[.pointer (some ⟨sb,0,none⟩)] 81)).alloc (.cells #[.slice none 0 0] 41)).alloc (.cells #[.pointer (some ⟨nb,0,none⟩)] 115)):=(((Below.refl _ w).alloc (Nat.le_refl _) _).alloc (by simp) _).alloc (by simp;omega) _;have hz:(((w.alloc (.cells #[.pointer (some ⟨sb,0,none⟩)] 81)).alloc (.cells #[.slice none 0 0] 41)).alloc (.cells #[.pointer (some ⟨nb,0,none⟩)] 115)).heap.size=w.heap.size+1+1+1:=by simp
 have lE:w.heap.size+3<=(((w.alloc (.cells #[.pointer (some ⟨sb,0,none⟩)] 81)).alloc (.cells #[.slice none 0 0] 41)).alloc (.cells #[.pointer (some ⟨nb,0,none⟩)] 115)).heap.size:=by simp
 clear hz;generalize((w.alloc (.cells #[.pointer (some ⟨sb,0,none⟩)] 81)).alloc (.cells #[.slice none 0 0] 41)).alloc (.cells #[.pointer (some ⟨nb,0,none⟩)] 115)=W1 at q0 q1 q2 f1 en lE⊢;refine(wpIn_wide (n:=5)).1 (wpIn_rangeFunc_ownF rfl h1 (gf:=171) (lb:=#[.pointer (some ⟨w.heap.size+1+1,0,none⟩)]) rfl trivial (enters_of Tryz.func171 (by kernel_rfl) rfl)
  (k7 (fun x=>x∈zf s.ps) (5-1) (by omega) (w.heap.size+1+1) nb pb (w.heap.size+1) s.ps (zf s.ps).attach (List.attach_map_subtype_val _) W1 q2 (HS.out.below en).slots HZ.out q1) KpL.t (KpL.b (by omega)) (Below.refl _ _) (fun _=>rfl)
  (fun pre W=>(W1.heap.size<=W.heap.size/\W.cell? ⟨w.heap.size,0,none⟩=some (.pointer (some ⟨sb,0,none⟩))/\qU W1.heap.size (w.heap.size+1) 60 7 (zu (pre.map fun x=>yD s x.1)) pre.length W)/\Below w.heap.size w W)
  (fun _ _ _=>False)
  (OwnFrom.and (Own.from (fun s A B row hs hg hr=>⟨Nat.le_trans hs.1 hg.size,cell_kept hs.2.1 hg hr,hs.2.2.kept hg hr⟩) _) (ownFrom_below (Nat.le_refl _) (by omega)))
  (fun _ _ _ _ _ hs _ _=>hs)
  ⟨⟨Nat.le_refl _,q0,_,q1,f1,World.ownsRow_nil ..⟩,en⟩
  (fun x=>{tmps:=#[Value.pointer (some ⟨sb,0,none⟩),.pointer (some ⟨w.heap.size,0,none⟩),.slice none 0 0,.pointer (some ⟨w.heap.size+1,0,none⟩),I x.1,undef,undef,.pointer (some ⟨sb,0,none⟩),.pointer (some ⟨sb,0,none⟩),.pointer (some ⟨sb,66,none⟩),.pointer (some ⟨nb,0,none⟩),.func (.func 171) #[] #[.pointer (some ⟨w.heap.size+1+1,0,none⟩)],I x.1,undef,undef,undef,undef,undef,undef,undef,undef,undef,undef,undef],defers:=[]}) ?assign ?body ?done ?stop)
 case assign=>
  intro l x W K hK;gi_wp2
  simpa using hK
 case body=>
  rintro l pre ⟨x,hx⟩ W ⟨⟨p9,aX,v,hv,Er,aa⟩,hB⟩ sE;have e1:1<=5-1-1:=by omega
  obtain⟨i0,hi,eG,aI,et⟩:=info_parts Jb;have I1:pre.length<64:=by rw[List.length_attach] at sE;omega
  have Ot:=hB.size;obtain⟨⟨ia,iU⟩,t,ht,hid⟩:=HD.out x hx;have rx:=Q9 sb gb nb pb mb n cv D cbs tb own s x t W (HS.out.below hB) (by omega) iU ht hid HR.out HF.out;have PZ:yD s x=gm s t:=by unfold yD;rw[ht];rfl
  unfold dr at rx;rw[<- PZ] at rx;obtain⟨T,hT⟩:∃T,yD s x=T:=⟨_,rfl⟩
  rw[hT] at rx;clear PZ;obtain⟨ti,tw,tg,tc,ts,tm,tl⟩:=T;unfold Tk.cells at rx;simp only at rx;have R5:=lH hT;clear hT ht hid;obtain⟨xs,i7⟩:∃xs,zu (pre.map fun x=>yD s x.1)=xs:=⟨_,rfl⟩
  rw[i7] at aa;have oQ:=lH i7;clear i7;gi_wp2_with (first | (refine⟨trivial,?_⟩;gi_at_call 142;refine(CallsIn.inRound l (callsIn_wide.2 rx)).mono ?_;rintro e w' ⟨rfl,hb⟩;have tF:=(hb.cell (p:=⟨w.heap.size,0,none⟩) (by show w.heap.size<W.heap.size;omega)).trans aX;have iC:=(hb.cell (p:=⟨w.heap.size+1,0,none⟩) (by show w.heap.size+1<W.heap.size;omega)).trans hv;have JV:w'.frozen? ⟨w.heap.size+1,0,none⟩=false:=(World.frozen?_of_block (a:=⟨w.heap.size+1,0,none⟩) (hb.block (w.heap.size+1) (by omega))).trans Er;have rt:=zb aa (fun k hk=>hb.block k (aa.lt k hk).2);have Cv:=hb.size;have n9:=c2a (.cells #[I ti,I tw,I tg,I tc,I ts,.int .u16 tm,I tl] 60) iC) | (gi_at_builtin;refine qw _ rfl _ _ 41 rfl W1.heap.size 60 i0 (.agg #[I 0,I 0,I 0,I 0,I 0,.int .u16 0,I 0]) 7 56 Tryz.underlying41 hi eG aI et rfl (by decide) v pre.length xs rfl ((rt.alloc _).alloc _) ⟨w'.heap.size+1,0,none⟩ 1 1 [I ti,I tw,I tg,I tc,I ts,.int .u16 tm,I tl] rfl rfl (World.news_of_block (cs:=#[I ti,I tw,I tg,I tc,I ts,.int .u16 tm,I tl]) (t:=60) (fr:=(0,0)) (by have:=heap_alloc_new (w'.alloc (.cells #[I ti,I tw,I tg,I tc,I ts,.int .u16 tm,I tl] 60)) (.cells #[I ti,I tw,I tg,I tc,I ts,.int .u16 tm,I tl] 60);rwa [World.size_alloc] at this)) (by simp[Value.oneCell']) (by omega) (by unfold maxLen;omega) (by omega) (by simp;omega) (w'.heap.size+2) (by simp) ?_;intro g cap w4 aV aq eW ln;have oA:v.ownBlock≠some (w.heap.size+1):=(fun e=>by have:=(rt.lt _ e).1;omega);have T2:=aq.cell (c2a (.cells #[I ti,I tw,I tg,I tc,I ts,.int .u16 tm,I tl] 60) n9) (fun e=>oA e.symm);have TQ:w4.frozen? ⟨w.heap.size+1,0,none⟩=false:=(World.frozen?_of_block (a:=⟨w.heap.size+1,0,none⟩) ((aq.block (w.heap.size+1) (by simp;omega) (fun e=>oA e.symm)).trans ((Below.heap_alloc _ _ _ (by simp;omega)).trans (Below.heap_alloc _ _ _ (by omega))))).trans JV))
  have ib:Below w.heap.size w (w'.alloc (.cells #[I ti,I tw,I tg,I tc,I ts,.int .u16 tm,I tl] 60)):=(hB.trans (hb.mono Ot)).alloc (by omega) _;have Nk:=zY (.cells #[I ti,I tw,I tg,I tc,I ts,.int .u16 tm,I tl] 60) iC JV;have N8:(w'.alloc (.cells #[I ti,I tw,I tg,I tc,I ts,.int .u16 tm,I tl] 60)).heap.size=w'.heap.size+1:=by simp
  have ly:=c2a (.cells #[I ti,I tw,I tg,I tc,I ts,.int .u16 tm,I tl] 60) tF;obtain⟨r1,r2,r3,r4,r5,r6,r7⟩:=bn (n₀:=W1.heap.size) n9 Nk (rt.alloc _) (by omega) (by omega) aq aV (by rw[N8];exact eW);have nS:Below W.heap.size W (w'.alloc (.cells #[I ti,I tw,I tg,I tc,I ts,.int .u16 tm,I tl] 60)):=hb.alloc Cv _;have JZ:=aq.size;simp only[World.size_alloc] at JZ;have JG:zu (((pre++[(⟨x,hx⟩:{x:Int // x∈zf s.ps})]).map fun x=>yD s x.1))=xs++[I ti,I tw,I tg,I tc,I ts,.int .u16 tm,I tl]:=by
   rw[List.map_append,xq,oQ.out];congr 1
   have:yD s x=⟨ti,tw,tg,tc,ts,tm,tl⟩:=R5.out;simp[this,zu,Tk.cells]
  refine⟨(yS nS).trans r1,(Wn nS (by omega)).t r2,⟨?_,(World.cell?_of_block (a:=⟨w.heap.size,0,none⟩) (r4 w.heap.size (by omega) (by omega))).trans ly,?_⟩,?_⟩
  · simp only[World.size_setCell];omega
  · rw[JG,List.length_append];exact r3
  · refine⟨r5.trans ib.os,r6.trans ib.tape,r7.trans ib.output,?_,fun k hk=>?_⟩
    · simp only[World.size_setCell];omega
    · rw[r4 k (by omega) (by omega)];exact ib.block k hk
 case done=>
  rintro D' ys W hD rfl ⟨⟨p9,aX,v,hv,Er,aa⟩,hB⟩ hK;have lB:W.ownsRow W1.heap.size 60 7 v (zf s.ps).length (zu ((zf s.ps).map (yD s))):=by
   have e1:((zf s.ps).attach.map fun x=>yD s x.1)=(zf s.ps).map (yD s):=by
    have:=congrArg (List.map (yD s)) (List.attach_map_subtype_val (zf s.ps));rw[List.map_map] at this;exact this
   rw[e1,List.length_attach] at aa;exact aa
  clear aa;have eJ:=lH lB;clear lB;go_wp2_with fail
  refine⟨by simp,.inl ⟨_,_,rfl,run_takeDeferred hK,?_⟩⟩;refine⟨_,results_tmp rfl _ _ _,?_⟩;refine⟨_,rfl,?_,hB.trans (belowK_b (w:=w) (Nat.le_refl _) _ D' _ _ (by omega) hK rfl rfl)⟩;exact ownsRow_putObj (zM eJ.out (by omega)) _ hK rfl
 case stop=>
  rintro D' c pre W _ _ h _;exact h.elim
theorem Jc:(Tryz.prog.info? 70).map (fun i=>(i.zero,i.size,i.bytes))=some (some (.agg #[I 0,.slice none 0 0]),2,32):=by kernel_rfl
theorem XS (sb gb nb pb mb n:Nat) (cv:Value) (D:DataW Unit) (cbs:List Nat) (tb:Int->Nat) (own:Nat->Option Own) (s:Sy) (W:World) (h:SysAt W sb gb nb pb mb n cv D cbs tb own s) :
 Calls Tryz.prog 86 #[.pointer (some ⟨sb,0,none⟩)] W fun e w'=>e=.returned (I cbs.length)/\W=w':=by
 obtain⟨a,c,aQ⟩:∃a c,cv=.slice a cbs.length c:=by
  rcases h.row.2 with⟨e,h0⟩ | ⟨g,cap,cur,e,_⟩
  · rw[h0];exact⟨_,_,e⟩
  · exact⟨_,cap,e⟩
 subst aQ;have c0:=h.head;generalize cbs.length=m at c0⊢;clear h;go_enter Tryz.func86,Tryz.ntmps86;go_wp2
 go_ret
 exact⟨rfl,rfl⟩
def yk (W:World) (P:Nat->Prop):List (Int×Value)->List Co->Prop
 | [],[]=>True
 | f::fs,c::cs=>(f.1=c.l.cur/\FSl W f.2 (zw c.l)/\∀k,f.2.ownBlock=some k->P k)/\yk W P fs cs
 | _,_=>False
theorem yk.len {W:World} {P:Nat->Prop}:∀{fs:List (Int×Value)} {cs:List Co},yk W P fs cs->fs.length=cs.length
 | [],[],_=>rfl
 | f::fs,c::cs,h=>by simp only[List.length_cons];rw[yk.len h.2]
 | [],_::_,h=>h.elim
 | _::_,[],h=>h.elim
theorem yk.same {W W':World} {P P':Nat->Prop} (hs:W.heap.size<=W'.heap.size) (hb:∀k,P k->W'.heap[k]? = W.heap[k]?) (hP:∀k,P k->P' k):∀{fs:List (Int×Value)} {cs:List Co},yk W P fs cs->yk W' P' fs cs
 | [],[],_=>trivial
 | f::fs,c::cs,h=>⟨⟨h.1.1,h.1.2.1.same hs (fun k hk=>hb k (h.1.2.2 k hk)),fun k hk=>hP k (h.1.2.2 k hk)⟩,yk.same hs hb hP h.2⟩
 | [],_::_,h=>h.elim
 | _::_,[],h=>h.elim
theorem yk.snoc {W:World} {P:Nat->Prop} {f:Int×Value} {c:Co} (h1:f.1=c.l.cur) (h2:FSl W f.2 (zw c.l)) (h3:∀k,f.2.ownBlock=some k->P k):∀{fs:List (Int×Value)} {cs:List Co},yk W P fs cs->yk W P (fs++[f]) (cs++[c])
 | [],[],_=>⟨⟨h1,h2,h3⟩,trivial⟩
 | f::fs,c::cs,h=>⟨h.1,yk.snoc h1 h2 h3 h.2⟩
 | [],_::_,h=>h.elim
 | _::_,[],h=>h.elim
def wK (fl:List (Int×Value)):List Value:=fl.flatMap fun f=>[I f.1,f.2]
def fJ (cs:List Co):List Value:=cs.map fun c=>I c.tag
def gK (w:World) (cs:List Co) (k:Nat) (wr:World):Prop:=
 ∃(vs:Nat->Value) (cnt:Nat->Nat) (xs:Nat->List Value) (P:Nat->Prop) (fl:List (Int×Value)),StA (w.heap.size+2) wr (w.heap.size+1) vs cnt xs P/\Below w.heap.size w wr /\
  wr.heap[w.heap.size]? = some (.cells #[.slice none 0 0,.slice none 0 0,.slice none 0 0,.slice none 0 0,.slice none 0 0] 44 (0,0))/\(∀k,P k->w.heap.size+2<=k) /\
  (cnt 0=k/\xs 0=fJ (cs.take k))/\(cnt 1=k/\xs 1=wK fl/\yk wr P fl (cs.take k))/\∀i,2<=i->i<5->vs i=.slice none 0 0/\cnt i=0/\xs i=[]
def RwS (B i:Nat) (v:Value) (W:World):Prop:=W.cell? ⟨B,i,none⟩=some v
theorem Zb (w:World) (cs:List Co):gK w cs 0 ((w.alloc (.cells #[.slice none 0 0,.slice none 0 0,.slice none 0 0,.slice none 0 0,.slice none 0 0] 44)).alloc (.cells #[.slice none 0 0,.slice none 0 0,.slice none 0 0,.slice none 0 0,.slice none 0 0] 44)):=by
 have hh:=heap_alloc_new (w.alloc (.cells #[.slice none 0 0,.slice none 0 0,.slice none 0 0,.slice none 0 0,.slice none 0 0] 44)) (.cells #[.slice none 0 0,.slice none 0 0,.slice none 0 0,.slice none 0 0,.slice none 0 0] 44);rw[World.size_alloc] at hh;have h0:((w.alloc (.cells #[.slice none 0 0,.slice none 0 0,.slice none 0 0,.slice none 0 0,.slice none 0 0] 44)).alloc (.cells #[.slice none 0 0,.slice none 0 0,.slice none 0 0,.slice none 0 0,.slice none 0 0] 44)).heap[w.heap.size]? = some (.cells #[.slice none 0 0,.slice none 0 0,.slice none 0 0,.slice none 0 0,.slice none 0 0] 44 (0,0)):=
  (Below.heap_alloc _ _ _ (by simp)).trans (heap_alloc_new w _)
 refine⟨fun _=>.slice none 0 0,fun _=>0,fun _=>[],fun k=>False,[],⟨fun i hi=>?_,fun i=>?_,fun i _=>World.ownsRow_nil ..,fun i j k _ _ _ hk=>by simp[Value.ownBlock] at hk,by omega,by simp,fun k hk=>hk.elim⟩,((Below.refl _ w).alloc (Nat.le_refl _) _).alloc (by simp) _,h0,fun k hk=>hk.elim,⟨rfl,rfl⟩,⟨rfl,rfl,trivial⟩,fun i _ _=>⟨rfl,rfl,rfl⟩⟩
 · simp only[World.cell?,hh];rcases(by omega:i=0\/i=1\/i=2\/i=3\/i=4) with rfl | rfl | rfl | rfl | rfl <;> rfl
 · simp only[World.frozen?,hh];simp
def VJ (w:World) (cs:List Co) (k:Nat) (wr:World):Prop:=
 ∃(vs:Nat->Value) (cnt:Nat->Nat) (xs:Nat->List Value) (P:Nat->Prop) (fl:List (Int×Value)),StA (w.heap.size+2) wr (w.heap.size+1) vs cnt xs P/\Below w.heap.size w wr /\
  wr.heap[w.heap.size]? = some (.cells #[.slice none 0 0,.slice none 0 0,.slice none 0 0,.slice none 0 0,.slice none 0 0] 44 (0,0))/\(∀k,P k->w.heap.size+2<=k) /\
  (cnt 0=k+1/\xs 0=fJ (cs.take (k+1)))/\(cnt 1=k/\xs 1=wK fl/\yk wr P fl (cs.take k))/\∀i,2<=i->i<5->vs i=.slice none 0 0/\cnt i=0/\xs i=[]
theorem jp (cs:List Co) (k:Nat) (hk:k<cs.length):cs.take (k+1)=cs.take k++[cs[k]!]:=by
 rw[List.take_succ_eq_append_getElem hk,getElem!_pos cs k hk]
theorem gK.tag {w wr w4:World} {cs:List Co} {k:Nat} (hk:k<cs.length) {vs:Nat->Value} {cnt:Nat->Nat} {xs:Nat->List Value} {P:Nat->Prop} {fl:List (Int×Value)} {g cap:Nat} {o:Obj}
 (mX:StA (w.heap.size+2) wr (w.heap.size+1) vs cnt xs P) (rF:Below w.heap.size w wr) (eG:wr.heap[w.heap.size]? = some (.cells #[.slice none 0 0,.slice none 0 0,.slice none 0 0,.slice none 0 0,.slice none 0 0] 44 (0,0))) (Bk:∀k,P k->w.heap.size+2<=k)
 (lW:cnt 0=k/\xs 0=fJ (cs.take k)) (mQ:cnt 1=k/\xs 1=wK fl/\yk wr P fl (cs.take k)) (ik:∀i,2<=i->i<5->vs i=.slice none 0 0/\cnt i=0/\xs i=[])
 (hg:(wr.alloc o).grownBy w4 (vs 0).ownBlock) (al:w4.ownsRow (w.heap.size+2) 3 1 (.slice (some ⟨g,0,none⟩) (k+1) cap) (k+1) (xs 0++[I cs[k]!.tag])) (aE:(vs 0).ownBlock=some g\/g=wr.heap.size+1) :
 VJ w cs k (w4.setCell ⟨w.heap.size+1,0,none⟩ (.slice (some ⟨g,0,none⟩) (k+1) cap)):=by
 obtain⟨lW,ek⟩:=lW;subst lW;obtain⟨-,hS,lZ,iW⟩:=mX.step (i:=0) (by omega) hg al aE;have ah:=mX.lt;have ld:∀j,P j->(w4.setCell ⟨w.heap.size+1,0,none⟩ (.slice (some ⟨g,0,none⟩) (cnt 0+1) cap)).heap[j]? = wr.heap[j]?:=fun j hj=>lZ j (mX.free j hj).1 (mX.free j hj).2.1 ((mX.free j hj).2.2 0 (by omega));refine⟨_,_,_,P,fl,hS,rF.trans (iW.mono (by omega)),(lZ _ (by omega) (by omega) (fun e=>by have:=((mX.row 0 (by omega)).lt _ e).1;omega)).trans eG,Bk,⟨by simp[yw],?_⟩,⟨by simpa [yw] using mQ.1,by simpa [yw] using mQ.2.1,mQ.2.2.same iW.size ld (fun _ h=>h)⟩,fun i hi Nz=>?_⟩
 · simp only[yw,if_pos];rw[jp cs _ hk,ek];simp[fJ]
 · simp only[yw];rw[if_neg (by omega),if_neg (by omega),if_neg (by omega)];exact ik i hi Nz
theorem VJ.form {w wr w8 w4:World} {cs:List Co} {k:Nat} (hk:k<cs.length) {vs:Nat->Value} {cnt:Nat->Nat} {xs:Nat->List Value} {P:Nat->Prop} {fl:List (Int×Value)} {g cap:Nat} {o:Obj} {v:Value}
 (mX:StA (w.heap.size+2) wr (w.heap.size+1) vs cnt xs P) (rF:Below w.heap.size w wr) (eG:wr.heap[w.heap.size]? = some (.cells #[.slice none 0 0,.slice none 0 0,.slice none 0 0,.slice none 0 0,.slice none 0 0] 44 (0,0))) (Bk:∀k,P k->w.heap.size+2<=k)
 (lW:cnt 0=k+1/\xs 0=fJ (cs.take (k+1))) (mQ:cnt 1=k/\xs 1=wK fl/\yk wr P fl (cs.take k)) (ik:∀i,2<=i->i<5->vs i=.slice none 0 0/\cnt i=0/\xs i=[])
 (mP:Below wr.heap.size wr w8) (AJ:w8.ownsRow wr.heap.size 77 3 v (zw cs[k]!.l).length (yG (zw cs[k]!.l)))
 (hg:(w8.alloc o).grownBy w4 (vs 1).ownBlock) (al:w4.ownsRow (w.heap.size+2) 70 2 (.slice (some ⟨g,0,none⟩) (k+1) cap) (k+1) (xs 1++[I cs[k]!.l.cur,v])) (aE:(vs 1).ownBlock=some g\/g=w8.heap.size+1) :
 gK w cs (k+1) (w4.setCell ⟨w.heap.size+1,1,none⟩ (.slice (some ⟨g,0,none⟩) (k+1) cap)):=by
 obtain⟨mQ,ia,Np⟩:=mQ;subst mQ;have ny:=mX.same mP;have ah:=mX.lt;have Eu:=mP.size;have ng:∀j,v.ownBlock=some j->j<w8.heap.size/\j≠w.heap.size+1/\∀i,i<5->(vs i).ownBlock≠some j:=fun j hj=>by
  have h1:=AJ.lt j hj;exact⟨h1.2,by omega,fun i hi e=>by have:=((mX.row i hi).lt j e).2;omega⟩
 have eo:=ny.more (P':=fun j=>P j\/v.ownBlock=some j) (fun j hj=>hj.elim .inl (fun h=>.inr (ng j h)));obtain⟨-,hS,lZ,iW⟩:=eo.step (i:=1) (by omega) hg al aE;have ld:∀j,(P j\/v.ownBlock=some j)->(w4.setCell ⟨w.heap.size+1,1,none⟩ (.slice (some ⟨g,0,none⟩) (cnt 1+1) cap)).heap[j]? = w8.heap[j]?:=fun j hj=>lZ j (eo.free j hj).1 (eo.free j hj).2.1 ((eo.free j hj).2.2 1 (by omega));have FD:∀j,P j->(w4.setCell ⟨w.heap.size+1,1,none⟩ (.slice (some ⟨g,0,none⟩) (cnt 1+1) cap)).heap[j]? = wr.heap[j]?:=fun j hj=>(ld j (.inl hj)).trans (mP.block j (mX.free j hj).1)
 refine⟨_,_,_,_,fl++[(cs[cnt 1]!.l.cur,v)],hS,(rF.trans (mP.mono (by omega))).trans (iW.mono (by omega)),((lZ _ (by omega) (by omega) (fun e=>by have:=((mX.row 1 (by omega)).lt _ e).1;omega)).trans (mP.block _ (by omega))).trans eG,fun j hj=>hj.elim (Bk j) (fun h=>by have:=(AJ.lt j h).1;omega),⟨by simpa [yw] using lW.1,by simpa [yw] using lW.2⟩,⟨by simp[yw],?_,?_⟩,fun i hi Nz=>?_⟩
 · simp only[yw,if_pos];rw[ia];simp[wK]
 · rw[jp cs _ hk];refine yk.snoc rfl ((FSl.of AJ).same iW.size (fun j hj=>ld j (.inr hj))) (fun j hj=>.inr hj) (Np.same (by have:=iW.size;omega) FD (fun _ h=>.inl h))
 · simp only[yw];rw[if_neg (by omega),if_neg (by omega),if_neg (by omega)];exact ik i hi Nz
end
def xD (s:Sy) (k:Nat):List xS:=((List.range k).filter fun g:Nat=>zL s.gs (g:Int)).map fun g=>s.acc.getD g default
theorem ZO {s:Sy} {k:Nat} (h:zL s.gs (k:Int)=false):xD s (k+1)=xD s k:=by
 unfold xD;rw[List.range_succ,List.filter_append];simp[h]
theorem ZN {s:Sy} {k:Nat} (h:zL s.gs (k:Int)=true):xD s (k+1)=xD s k++[s.acc.getD k default]:=by
 unfold xD;rw[List.range_succ,List.filter_append];simp[h]
structure OfA (w:World) (s:Sy) (a b:Nat) (wr:World) (vs:Nat->Value) (cnt:Nat->Nat) (xs:Nat->List Value) (P:Nat->Prop) (fl:List (Int×Value)):Prop where
 st:StA (w.heap.size+2) wr (w.heap.size+1) vs cnt xs P
 below:Below w.heap.size w wr
 zero:wr.heap[w.heap.size]? = some (.cells #[.slice none 0 0,.slice none 0 0,.slice none 0 0,.slice none 0 0,.slice none 0 0] 44 (0,0))
 p0:∀k,P k->w.heap.size+2<=k
 tags:cnt 0=s.cores.length/\xs 0=fJ s.cores
 forms:cnt 1=s.cores.length/\xs 1=wK fl/\yk wr P fl s.cores
 tasks:cnt 2=(zf s.ps).length/\xs 2=zu ((zf s.ps).map (yD s))
 lefts:cnt 3=(xD s a).length/\xs 3=(xD s a).map fun q=>I q.2.2.1
 phases:cnt 4=(xD s b).length/\xs 4=(xD s b).map fun q=>I q.2.2.2
theorem gK.tasks {w wr w7:World} {s:Sy} {v:Value} (h:gK w s.cores s.cores.length wr) (hb:Below wr.heap.size wr w7) (hr:w7.ownsRow wr.heap.size 60 7 v (zf s.ps).length (zu ((zf s.ps).map (yD s)))) :
 (w7.cell? ⟨w.heap.size+1,2,none⟩=some (.slice none 0 0)/\w7.frozen? ⟨w.heap.size+1,2,none⟩=false)/\∃vs cnt xs P fl,OfA w s 0 0 (w7.setCell ⟨w.heap.size+1,2,none⟩ v) vs cnt xs P fl:=by
 obtain⟨vs,cnt,xs,P,fl,mX,rF,eG,Bk,lW,mQ,ik⟩:=h;have h7:=mX.same hb;have ah:=mX.lt;have hz:=hb.size;refine⟨⟨(h7.cell 2 (by omega)).trans (by rw[(ik 2 (by omega) (by omega)).1]),h7.live 2⟩,?_⟩;have ie:=h7.put (i:=2) (by omega) (v:=v) (n:=(zf s.ps).length) (ys:=zu ((zf s.ps).map (yD s))) (zM hr ah) (fun k hk=>by
  have h1:=hr.lt k hk;exact⟨fun j hj _ e=>by have:=((mX.row j hj).lt k e).2;omega,fun hp=>by have:=(mX.free k hp).1;omega⟩)
 have ld:∀j,j<wr.heap.size->j≠w.heap.size+1->(w7.setCell ⟨w.heap.size+1,2,none⟩ v).heap[j]? = wr.heap[j]?:=fun j hj ay=>by
  rw[Below.heap_setCell _ _ _ _ ay,hb.block j hj]
 rw[List.take_length] at lW mQ;refine⟨_,_,_,P,fl,ie,(rF.trans (hb.mono (by omega))).setCell (by simp) _,(ld _ (by omega) (by omega)).trans eG,Bk,⟨by simpa [yw] using lW.1,by simpa [yw] using lW.2⟩,⟨by simpa [yw] using mQ.1,by simpa [yw] using mQ.2.1,mQ.2.2.same (by simp;omega) (fun j hj=>ld j (mX.free j hj).1 (mX.free j hj).2.1) (fun _ h=>h)⟩,
  ⟨by simp[yw],by simp[yw]⟩,⟨?_,?_⟩,⟨?_,?_⟩⟩
 · simp only[yw];rw[if_neg (by omega),(ik 3 (by omega) (by omega)).2.1];rfl
 · simp only[yw];rw[if_neg (by omega),(ik 3 (by omega) (by omega)).2.2];rfl
 · simp only[yw];rw[if_neg (by omega),(ik 4 (by omega) (by omega)).2.1];rfl
 · simp only[yw];rw[if_neg (by omega),(ik 4 (by omega) (by omega)).2.2];rfl
theorem OfA.same {w wr wr':World} {s:Sy} {a b:Nat} {vs:Nat->Value} {cnt:Nat->Nat} {xs:Nat->List Value} {P:Nat->Prop} {fl:List (Int×Value)} (h:OfA w s a b wr vs cnt xs P fl) (hb:Below wr.heap.size wr wr'):OfA w s a b wr' vs cnt xs P fl:=by
 have ah:=h.st.lt;exact⟨h.st.same hb,h.below.trans (hb.mono (by omega)),(hb.block _ (by omega)).trans h.zero,h.p0,h.tags,⟨h.forms.1,h.forms.2.1,h.forms.2.2.same hb.size (fun j hj=>hb.block j (h.st.free j hj).1) (fun _ h=>h)⟩,h.tasks,h.lefts,h.phases⟩
theorem OfA.keep {w wr:World} {s:Sy} {a b:Nat} {vs:Nat->Value} {cnt:Nat->Nat} {xs:Nat->List Value} {P:Nat->Prop} {fl:List (Int×Value)} (h:OfA w s a b wr vs cnt xs P fl) {B:Nat} (h1:B<wr.heap.size) (h2:B≠w.heap.size+1) (h3:∀i,i<5->(vs i).ownBlock≠some B) (h4:w.heap.size+2<=B) :
 OfA w s a b wr vs cnt xs (fun k=>P k\/k=B) fl:=
 ⟨h.st.more (fun k hk=>hk.elim .inl (fun e=>.inr (by subst e;exact⟨h1,h2,h3⟩))),h.below,h.zero,fun k hk=>hk.elim (h.p0 k) (fun e=>by rw[e];exact h4),h.tags,⟨h.forms.1,h.forms.2.1,h.forms.2.2.same (Nat.le_refl _) (fun _ _=>rfl) (fun _ h=>.inl h)⟩,h.tasks,h.lefts,h.phases⟩
theorem OfA.row3 {w wr w4:World} {s:Sy} {a b:Nat} {vs:Nat->Value} {cnt:Nat->Nat} {xs:Nat->List Value} {P:Nat->Prop} {fl:List (Int×Value)} (h:OfA w s a b wr vs cnt xs P fl) {q:xS} {g cap:Nat} {o:Obj} (hq:xD s (a+1)=xD s a++[q])
 (hg:(wr.alloc o).grownBy w4 (vs 3).ownBlock) (al:w4.ownsRow (w.heap.size+2) 2 1 (.slice (some ⟨g,0,none⟩) (cnt 3+1) cap) (cnt 3+1) (xs 3++[I q.2.2.1])) (aE:(vs 3).ownBlock=some g\/g=wr.heap.size+1) :
 (w4.cell? ⟨w.heap.size+1,3,none⟩=some (vs 3)/\w4.frozen? ⟨w.heap.size+1,3,none⟩=false)/\(∃vs' cnt' xs',OfA w s (a+1) b (w4.setCell ⟨w.heap.size+1,3,none⟩ (.slice (some ⟨g,0,none⟩) (cnt 3+1) cap)) vs' cnt' xs' P fl) /\
  ∀j,P j->(w4.setCell ⟨w.heap.size+1,3,none⟩ (.slice (some ⟨g,0,none⟩) (cnt 3+1) cap)).heap[j]? = wr.heap[j]?:=by
 obtain⟨rk,hS,lZ,iW⟩:=h.st.step (i:=3) (by omega) hg al aE;have ah:=h.st.lt;have ld:∀j,P j->(w4.setCell ⟨w.heap.size+1,3,none⟩ (.slice (some ⟨g,0,none⟩) (cnt 3+1) cap)).heap[j]? = wr.heap[j]?:=fun j hj=>lZ j (h.st.free j hj).1 (h.st.free j hj).2.1 ((h.st.free j hj).2.2 3 (by omega));refine⟨rk,⟨_,_,_,hS,h.below.trans (iW.mono (by omega)),(lZ _ (by omega) (by omega) (fun e=>by have:=((h.st.row 3 (by omega)).lt _ e).1;omega)).trans h.zero,h.p0,⟨by simpa [yw] using h.tags.1,by simpa [yw] using h.tags.2⟩,⟨by simpa [yw] using h.forms.1,by simpa [yw] using h.forms.2.1,h.forms.2.2.same iW.size ld (fun _ h=>h)⟩,⟨by simpa [yw] using h.tasks.1,by simpa [yw] using h.tasks.2⟩,⟨?_,?_⟩,⟨by simpa [yw] using h.phases.1,by simpa [yw] using h.phases.2⟩⟩,ld⟩
 · simp only[yw,if_pos];rw[hq,h.lefts.1];simp
 · simp only[yw,if_pos];rw[hq,h.lefts.2];simp
theorem OfA.row4 {w wr w4:World} {s:Sy} {a b:Nat} {vs:Nat->Value} {cnt:Nat->Nat} {xs:Nat->List Value} {P:Nat->Prop} {fl:List (Int×Value)} (h:OfA w s a b wr vs cnt xs P fl) {q:xS} {g cap:Nat} {o:Obj} (hq:xD s (b+1)=xD s b++[q])
 (hg:(wr.alloc o).grownBy w4 (vs 4).ownBlock) (al:w4.ownsRow (w.heap.size+2) 2 1 (.slice (some ⟨g,0,none⟩) (cnt 4+1) cap) (cnt 4+1) (xs 4++[I q.2.2.2])) (aE:(vs 4).ownBlock=some g\/g=wr.heap.size+1) :
 (w4.cell? ⟨w.heap.size+1,4,none⟩=some (vs 4)/\w4.frozen? ⟨w.heap.size+1,4,none⟩=false)/\(∃vs' cnt' xs',OfA w s a (b+1) (w4.setCell ⟨w.heap.size+1,4,none⟩ (.slice (some ⟨g,0,none⟩) (cnt 4+1) cap)) vs' cnt' xs' P fl):=by
 obtain⟨rk,hS,lZ,iW⟩:=h.st.step (i:=4) (by omega) hg al aE;have ah:=h.st.lt;have ld:∀j,P j->(w4.setCell ⟨w.heap.size+1,4,none⟩ (.slice (some ⟨g,0,none⟩) (cnt 4+1) cap)).heap[j]? = wr.heap[j]?:=fun j hj=>lZ j (h.st.free j hj).1 (h.st.free j hj).2.1 ((h.st.free j hj).2.2 4 (by omega));refine⟨rk,⟨_,_,_,hS,h.below.trans (iW.mono (by omega)),(lZ _ (by omega) (by omega) (fun e=>by have:=((h.st.row 4 (by omega)).lt _ e).1;omega)).trans h.zero,h.p0,⟨by simpa [yw] using h.tags.1,by simpa [yw] using h.tags.2⟩,⟨by simpa [yw] using h.forms.1,by simpa [yw] using h.forms.2.1,h.forms.2.2.same iW.size ld (fun _ h=>h)⟩,⟨by simpa [yw] using h.tasks.1,by simpa [yw] using h.tasks.2⟩,⟨by simpa [yw] using h.lefts.1,by simpa [yw] using h.lefts.2⟩,⟨?_,?_⟩⟩⟩
 · simp only[yw,if_pos];rw[hq,h.phases.1];simp
 · simp only[yw,if_pos];rw[hq,h.phases.2];simp
theorem du (s:Sy) (k:Nat):(xD s k).length<=k:=by
 unfold xD;rw[List.length_map];exact Nat.le_trans (List.length_filter_le _ _) (by simp)
structure StateR (s:Sy) (H:Nat) (W:World) (vs:Nat->Value):Prop where
 tags:W.ownsRow H 3 1 (vs 0) s.cores.length (fJ s.cores)
 forms:∃(fl:List (Int×Value)) (P:Nat->Prop),W.ownsRow H 70 2 (vs 1) s.cores.length (wK fl)/\yk W P fl s.cores/\∀k,P k->H<=k
 tasks:W.ownsRow H 60 7 (vs 2) (zf s.ps).length (zu ((zf s.ps).map (yD s)))
 lefts:W.ownsRow H 2 1 (vs 3) (xD s 16).length ((xD s 16).map fun q=>I q.2.2.1)
 phases:W.ownsRow H 2 1 (vs 4) (xD s 16).length ((xD s 16).map fun q=>I q.2.2.2)
theorem OfA.done {w wr wf:World} {s:Sy} {vs:Nat->Value} {cnt:Nat->Nat} {xs:Nat->List Value} {P:Nat->Prop} {fl:List (Int×Value)} (h:OfA w s 16 16 wr vs cnt xs P fl) (hs:wr.heap.size<=wf.heap.size) (hb:∀k,k≠w.heap.size->wf.heap[k]? = wr.heap[k]?):StateR s (w.heap.size+2) wf vs:=by
 have aa:∀i,i<5->wf.ownsRow (w.heap.size+2) (rty i) (rsz i) (vs i) (cnt i) (xs i):=fun i hi=>zb (h.st.row i hi) (fun k hk=>hb k (by have:=((h.st.row i hi).lt k hk).1;omega));have Np:yk wf P fl s.cores:=h.forms.2.2.same hs (fun k hk=>hb k (by have:=h.p0 k hk;omega)) (fun _ h=>h);have r0:=aa 0 (by omega);rw[h.tags.1,h.tags.2] at r0;have r1:=aa 1 (by omega);rw[h.forms.1,h.forms.2.1] at r1;have r2:=aa 2 (by omega);rw[h.tasks.1,h.tasks.2] at r2;have r3:=aa 3 (by omega);rw[h.lefts.1,h.lefts.2] at r3;have r4:=aa 4 (by omega);rw[h.phases.1,h.phases.2] at r4;exact⟨r0,⟨fl,_,r1,Np,h.p0⟩,r2,r3,r4⟩
end Go.Proofs.YtoiajjobecinpaaGreat
