/- The document's own queue: Form, New. The document's own names: NewNames, Take, Has, Free. The docume -/
import Derived.Test.YtoiajjobecinpaaGreatTM28
set_option maxHeartbeats 4000000
set_option maxRecDepth 100000
namespace Go.Proofs.YtoiajjobecinpaaGreat
open Go.RowKit Go.Shelf Go.Lib Go.Proofs
set_option linter.unusedVariables false
set_option linter.unusedSimpArgs false
section
attribute [local go_sem] Oper.semAt_some
theorem Xu:(Tryz.prog.info? 105).map (fun i=>(i.zero,i.size,i.bytes))=some (some (.agg #[I 0,I 0,I 0]),3,24):=by kernel_rfl
structure OFormAt (W:World) (H B:Nat) (cur:Int) (v:Value) (its:List It):Prop where
 cur:W.cell? ⟨B,0,none⟩=some (I cur)
 sl:W.cell? ⟨B,1,none⟩=some v
 live:∀i,W.frozen? ⟨B,i,none⟩=false
 row:W.ownsRow H 105 3 v its.length (yG its)
 ne:v.ownBlock≠some B
def ZJ (W0 W:World) (cur:Int) (its:List It):Prop:=
 ∃v,OFormAt W (W0.heap.size+2) (W0.heap.size+1) cur v its/\Below W0.heap.size W0 W/\(∃a b,W.heap[W0.heap.size]? = some (.cells #[a,b] 66 (0,0)))
def OFS (qb g k B:Nat) (sl vf:Value) (base:Int) (p:Pt) (W:World):Prop:=
 W.cell? ⟨qb,3,none⟩=some sl/\W.cell? ⟨qb,1,none⟩=some (I base)/\W.cell? ⟨g,k*4,none⟩=some (I p.id)/\W.cell? ⟨g,k*4+1,none⟩=some (I p.w)/\W.cell? ⟨g,k*4+2,none⟩=some (I p.v)/\W.cell? ⟨B,1,none⟩=some vf
theorem OFS.alloc {qb g k B:Nat} {sl vf:Value} {base:Int} {p:Pt} {W:World} (h:OFS qb g k B sl vf base p W) (o:Obj):OFS qb g k B sl vf base p (W.alloc o):=
 ⟨Lib.cell?_alloc_some _ h.1,Lib.cell?_alloc_some _ h.2.1,Lib.cell?_alloc_some _ h.2.2.1,Lib.cell?_alloc_some _ h.2.2.2.1,Lib.cell?_alloc_some _ h.2.2.2.2.1,Lib.cell?_alloc_some _ h.2.2.2.2.2⟩
theorem OFS.grown {qb g k B:Nat} {sl vf:Value} {base:Int} {p:Pt} {W w1:World} {row:Option Nat} (h:OFS qb g k B sl vf base p W) (hg:W.grownBy w1 row) (h1:row≠some qb) (h2:row≠some g) (h3:row≠some B):OFS qb g k B sl vf base p w1:=
 ⟨hg.cell h.1 (fun e=>h1 e.symm),hg.cell h.2.1 (fun e=>h1 e.symm),hg.cell h.2.2.1 (fun e=>h2 e.symm),hg.cell h.2.2.2.1 (fun e=>h2 e.symm),hg.cell h.2.2.2.2.1 (fun e=>h2 e.symm),hg.cell h.2.2.2.2.2 (fun e=>h3 e.symm)⟩
theorem fk {W wr w1:World} {cur:Int} {vf v':Value} {its:List It} {it:It} {o:Obj} {r0 r1:Value} (hF:OFormAt wr (W.heap.size+2) (W.heap.size+1) cur vf its) (hB:Below W.heap.size W wr) (am:wr.heap[W.heap.size]? = some (.cells #[r0,r1] 66 (0,0)))
 (hg:(wr.drew.alloc o).grownBy w1 vf.ownBlock) (al:w1.ownsRow (W.heap.size+2) 105 3 v' (its.length+1) (yG its++it.cells)) :
 ZJ W (w1.setCell ⟨W.heap.size+1,1,none⟩ v') cur (its++[it]):=by
 have ah:W.heap.size+1<wr.heap.size:=World.block_lt_of_cell? wr _ hF.cur;have em:∀j,j<wr.heap.size->some j≠vf.ownBlock->w1.heap[j]? = wr.heap[j]?:=fun j hj ay=>(hg.block j (by rw[zR];exact Nat.lt_succ_of_lt hj) ay).trans (Below.heap_alloc _ _ _ hj)
 have h1:w1.heap[W.heap.size+1]? = wr.heap[W.heap.size+1]?:=em _ ah (fun e=>hF.ne e.symm);have iC:∀j,v'.ownBlock=some j->W.heap.size+2<=j:=fun j hj=>(al.lt j hj).1;have sK:∀j,vf.ownBlock=some j->W.heap.size+2<=j:=fun j hj=>(hF.row.lt j hj).1;refine⟨_,⟨?_,World.cell?_setCell_same _ _ _ ((World.cell?_of_block (a:=⟨W.heap.size+1,1,none⟩) h1).trans hF.sl),fun i=>?_,?_,fun e=>by have:=iC _ e;omega⟩,?_,r0,r1,?_⟩
 · rw[za _ (by simp)];exact(World.cell?_of_block (a:=⟨W.heap.size+1,0,none⟩) h1).trans hF.cur
 · rw[World.frozen?_setCell];exact(World.frozen?_of_block (a:=⟨W.heap.size+1,i,none⟩) h1).trans (hF.live i)
 · refine zb (W:=w1) ?_ (fun j hj=>Below.heap_setCell _ _ _ _ (fun e=>by have e2:j=W.heap.size+1:=e;have:=iC j hj;omega));rw[kP];simpa [yG] using al
 · have ab:Below W.heap.size W w1:=by
    refine⟨hg.os.trans hB.os,hg.tape.trans hB.tape,hg.output.trans hB.output,?_,fun j hj=>(em j (by have:=hB.size;omega) (fun e=>?_)).trans (hB.block j hj)⟩
    · have h9:=hg.size;rw[zR] at h9;have h8:wr.drew.heap.size=wr.heap.size:=rfl;have:=hB.size;omega
    · have:=sK j e.symm;omega
   exact ab.setCell (by simp) _
 · rw[Below.heap_setCell _ _ _ _ (by simp)];exact(em _ (by omega) (fun e=>by have:=sK _ e.symm;omega)).trans am
def VI (W:World) (cur:Int) (its:List It) (e:Ending) (w':World):Prop:=∃v',e=.returned (.agg #[I cur,v'])/\w'.ownsRow W.heap.size 105 3 v' its.length (yG its)/\Below W.heap.size W w'
theorem dT (qb:Nat) (v:Value) (tag:Int) (l:Ln) (W:World) (hq:QuAt W qb v tag l) (aT:l.ps.length<=64) (hw:∀p∈l.ps,IntKind.i64.wrap (l.base-p.v)=l.base-p.v) :
 Calls Tryz.prog 19 #[.pointer (some ⟨qb,0,none⟩)] W (VI W l.cur (zw l)):=by
 obtain⟨n,hn⟩:∃x,l.ps.length=x:=⟨_,rfl⟩
 rw[hn] at aT;obtain⟨i0,hi,eG,aI,et⟩:=info_parts Xu;have c2:=hq.c2;have HN:=lH hn;have HQ:=lH hq;have HW:=lH hw;have FR:=hq.lt.1;have io:=lH FR;clear hq hn hw;go_enter Tryz.func19,Tryz.ntmps19;go_wp2_with fail
 go_loopw [4] (fun x wr=>∃k:Nat,k<=n/\x=I k/\Hid (ZJ W wr l.cur ((l.ps.take k).map (itP l.base)))) (fun x _=>n-(intOf x).toNat)
 case atStart=>
  have hf:=heap_alloc_new (W.alloc (.cells #[I 0,.slice none 0 0] 66)) (.cells #[I l.cur,.slice none 0 0] 66);rw[zR] at hf;refine⟨0,Nat.zero_le _,rfl,lH ⟨.slice none 0 0,⟨?_,?_,fun i=>?_,World.ownsRow_nil _ _ _ _,by simp[Value.ownBlock]⟩,((Below.refl _ _).alloc (Nat.le_refl _) _).alloc (by simp) _,?_⟩⟩
  · simp only[World.cell?,hf];rfl
  · simp only[World.cell?,hf];rfl
  · simp only[World.frozen?,hf];simp
  · exact⟨_,_,(Below.heap_alloc _ _ _ (by simp)).trans (heap_alloc_new W _)⟩
 case round=>
  obtain⟨k,hk,rfl,HR⟩:=hrel;obtain⟨vf,hF,hB,r0,r1,am⟩:=HR.out;have m7:=HQ.out.below hB;have c3:=m7.c3;have c1:=m7.c1;obtain⟨a,c,hv,ae⟩:=m7.get;rw[hv,HN.out] at c3;have e1:=hF.sl;have e0:=hF.cur;have f1:=hF.live 1;have aX:0<=(k:Int):=by omega
  have te:=World.block_lt_of_cell? wr _ hF.cur;simp only at te;by_cases aS:k<n
  · have eO:k<l.ps.length:=by rw[HN.out];exact aS
    obtain⟨p,hp⟩:∃p,l.ps[k]? = some p:=⟨_,List.getElem?_eq_getElem eO⟩
    obtain⟨g,rfl,g1,p0,p1,p2,-⟩:=ae k p hp;have iY:(k:Int)<(n:Int):=by omega
    have tK:l.ps[k]'eO=p:=by rw[List.getElem?_eq_getElem eO] at hp;exact Option.some.inj hp
    have kw:=HW.out p (List.mem_of_getElem? hp);have Ns:g<W.heap.size:=by
     have:=HQ.out.lt.2 g (by rw[hv];rfl);exact this
    have sh:((l.ps.take k).map (itP l.base)).length=k:=by simp;omega
    have eZ:(l.ps.take (k+1)).map (itP l.base)=(l.ps.take k).map (itP l.base)++[⟨p.id,p.w,l.base-p.v⟩]:=by
     rw[List.take_succ_eq_append_getElem eO,List.map_append,tK];rfl
    have al:=hF.row;rw[sh] at al;have sK:∀j,vf.ownBlock=some j->W.heap.size+2<=j:=fun j hj=>(al.lt j hj).1;have HF:=lH hF;have HB:=lH hB;have aA:=lH am;have Cz:=lH sh;have s8:=lH eZ;have rX:=lH sK;clear hF hB am m7 hv ae hp tK sh eZ HR sK;go_wp2_with fail
    have lD:OFS qb g k (W.heap.size+1) (.slice (some ⟨g,0,none⟩) n c) vf l.base p wr.drew:=⟨c3,c1,p0,p1,p2,e1⟩
    refine zK (S:=OFS qb g k (W.heap.size+1) (.slice (some ⟨g,0,none⟩) n c) vf l.base p) (T:=[35]) (by kernel_rfl) ?_;refine wT 0 ?_;refine wT 1 ?_;refine wT 2 ?_;refine wT 3 ?_;refine wT 4 ?_;refine wT 5 ?_;refine wT 6 ?_;refine wT 7 ?_;refine wT 8 ?_;refine wT 9 ?_;refine wT 10 ?_;refine wT 11 ?_;refine wT 12 ?_;refine wT 13 ?_;refine wT 14 ?_;refine wT 15 ?_;refine wT 16 ?_;refine wT 17 ?_;refine wT 18 ?_;refine wT 19 ?_;refine wT 20 ?_;refine wT 21 ?_;refine wT 22 ?_;refine wT 23 ?_;refine wT 24 ?_;refine wT 25 ?_;refine wT 26 ?_;refine wT 27 ?_;refine wT 28 ?_;refine wT 29 ?_;refine wT 30 ?_;refine wT 31 ?_;simp only[Act.put,aP,List.set];refine ze (i:=32) (by kernel_rfl) rfl (by kernel_rfl) ?_;intro K hK;go_simp
    have aF:=lD.alloc (.cells #[I p.id,I p.w,I (l.base-p.v)] 105);refine hK _ _ aF ?_;clear hK;refine ze (i:=33) (by kernel_rfl) rfl (by kernel_rfl) ?_;intro K hK;refine zz rfl _ _ _ rfl (W.heap.size+2) 105 i0 _ 3 24 Tryz.underlying64 hi eG aI et rfl (by omega) vf k (yG ((l.ps.take k).map (itP l.base))) rfl (World.ownsRow.alloc (w:=wr.drew) al _) (some ⟨wr.heap.size,0,none⟩) 1 1 [I p.id,I p.w,I (l.base-p.v)] rfl (vL (w:=wr.drew) (cs:=#[I p.id,I p.w,I (l.base-p.v)]) (by simp[Value.oneCell'])) (by unfold maxLen;omega) (by omega) (by simp;omega) (k+1) rfl _ rfl ?_;intro a2 q2 w2 eh aR nm;have aC:=aF.grown aR (fun e=>by have:=rX.out _ e;have:=io.out;omega) (fun e=>by have:=rX.out _ e;omega) (fun e=>by have:=rX.out _ e;omega);refine hK _ _ aC ?_;have HFin:=lH (fk (it:=⟨p.id,p.w,l.base-p.v⟩) HF.out HB.out aA.out aR (by rw[Cz.out];exact eh));rw[<- s8.out] at HFin;have e1':=aC.2.2.2.2.2;have f1':w2.frozen? ⟨W.heap.size+1,1,none⟩=false:=(World.frozen?_of_block (a:=⟨W.heap.size+1,1,none⟩) ((aR.block (W.heap.size+1) (by show W.heap.size+1<(wr.alloc _).heap.size;rw[zR];exact Nat.lt_succ_of_lt te) (fun e=>by have:=rX.out _ e.symm;omega)).trans (Below.heap_alloc wr.drew _ _ te))).trans f1;clear hK eh aR nm lD aF;refine ze (i:=34) (by kernel_rfl) rfl (by kernel_rfl) ?_;intro K hK;go_simp
    refine hK _ _ aC ?_;clear hK;refine zk (i:=35) (by kernel_rfl) rfl (by kernel_rfl) ?_;intro K hK;go_simp
    refine hK _ _ ?_;clear hK;refine zy (by kernel_rfl) ?_ _;clear aC e1' f1' c3 c1 p0 p1 p2 e1 e0 f1 al;go_wp2_with fail
    go_roundw
    case rel=>exact⟨k+1,aS,by go_num,HFin⟩
    case measure=>simp[intOf];omega
  · obtain rfl:k=n:=by omega
    clear e1 e0 f1;have eZ:l.ps.take k=l.ps:=List.take_of_length_le (by rw[HN.out];exact Nat.le_refl _);rw[eZ] at hF;obtain⟨sa,sn,rfl,-⟩:=zH hF.row;have e0:=hF.cur;have e1:=hF.sl;have g0:wr.cell? ⟨W.heap.size,0,none⟩=some r0:=by simp only[World.cell?,am];rfl
    have g1:wr.cell? ⟨W.heap.size,1,none⟩=some r1:=by simp only[World.cell?,am];rfl
    have f0:wr.frozen? ⟨W.heap.size,0,none⟩=false:=by simp only[World.frozen?,am];simp
    have f1:wr.frozen? ⟨W.heap.size,1,none⟩=false:=by simp only[World.frozen?,am];simp
    have LW:((l.ps.map (itP l.base)).length)=k:=by simp[HN.out]
    rw[LW] at e1;have iG:Hid (((wr.setCell ⟨W.heap.size,0,none⟩ (I l.cur)).setCell ⟨W.heap.size,1,none⟩ (.slice sa k sn)).cell? ⟨W.heap.size,0,none⟩=some (I l.cur)):=
     lH (by rw[za _ (by simp)];exact World.cell?_setCell_same _ _ _ g0)
    have eV:Hid (((wr.setCell ⟨W.heap.size,0,none⟩ (I l.cur)).setCell ⟨W.heap.size,1,none⟩ (.slice sa k sn)).cell? ⟨W.heap.size,1,none⟩=some (.slice sa k sn)):=
     lH (World.cell?_setCell_same _ _ _ (by rw[za _ (by simp)];exact g1))
    have eJ:Hid (((wr.setCell ⟨W.heap.size,0,none⟩ (I l.cur)).setCell ⟨W.heap.size,1,none⟩ (.slice sa k sn)).ownsRow W.heap.size 105 3 (.slice sa k sn) (zw l).length (yG (zw l))):=by
     have hr:=hF.row;rw[LW] at hr;rw[show(zw l).length=k from LW];refine lH (zM (zb hr (fun j hj=>?_)) (by omega));have:=(hr.lt j hj).1;rw[Below.heap_setCell _ _ _ _ (by simp;omega),Below.heap_setCell _ _ _ _ (by simp;omega)]
    have HB:=lH hB;clear hF hB am eZ HR m7 hv ae LW;go_wp2
    exact bodyPost_ret (v:=.agg #[I l.cur,.slice sa k sn]) (by simp[results,Tryz.results19,go_sem,iG.out,eV.out]) rfl ⟨_,rfl,eJ.out,(HB.out.setCell (by simp) _).setCell (by simp) _⟩
theorem Zo (tag:Int) (W:World) (ht:tag=0\/tag=1\/tag=2) :
 Calls Tryz.prog 27 #[I tag,I 0] W fun e w'=>e=.returned (.tuple #[.pointer (some ⟨W.heap.size,0,none⟩),I 0])/\QuAt w' W.heap.size (.slice none 0 0) tag ⟨0,-1,[]⟩/\Below W.heap.size W w':=by
 have h0:¬tag<0:=by omega
 have h2:¬2<tag:=by omega
 clear ht;go_enter Tryz.func27,Tryz.ntmps27;go_wp2_with fail
 go_ret2
 have hf:=heap_alloc_new W (.cells #[I tag,I 0,I (-1),.slice none 0 0] 108);refine⟨rfl,⟨?_,?_,?_,?_,fun i=>?_,World.ownsRow_nil _ _ _ _,by simp[Value.ownBlock]⟩,(Below.refl _ _).alloc (Nat.le_refl _) _⟩
 · simp only[World.cell?,hf];rfl
 · simp only[World.cell?,hf];rfl
 · simp only[World.cell?,hf];rfl
 · simp only[World.cell?,hf];rfl
 · simp only[World.frozen?,hf];simp
theorem US (tag:Int) (W:World) (ht:tag<0\/2<tag) :
 Calls Tryz.prog 27 #[I tag,I 0] W fun e w'=>e=.returned (.tuple #[.pointer none,I 1])/\W=w':=by
 rcases ht with h | h
 · go_enter Tryz.func27,Tryz.ntmps27;go_wp2_with fail
   go_ret2
   exact⟨rfl,rfl⟩
 · have h0:¬tag<0:=by omega
   go_enter Tryz.func27,Tryz.ntmps27;go_wp2_with fail
   go_ret2
   exact⟨rfl,rfl⟩
structure NaAt (W:World) (nb tb ob:Nat) (ps:List (Int×Bool)):Prop where
 len:ps.length=64
 c0:W.cell? ⟨nb,0,none⟩=some (.slice (some ⟨tb,0,none⟩) 64 64)
 c1:W.cell? ⟨nb,1,none⟩=some (.slice (some ⟨ob,0,none⟩) 64 64)
 t:∀i:Nat,i<64->W.cell? ⟨tb,i,none⟩=some (I (ps.getD i default).1)
 o:∀i:Nat,i<64->W.cell? ⟨ob,i,none⟩=some (.bool (ps.getD i default).2)
 ft:∀i,W.frozen? ⟨tb,i,none⟩=false
 fo:∀i,W.frozen? ⟨ob,i,none⟩=false
 ne:nb≠tb/\nb≠ob/\tb≠ob
theorem NaAt.same {W W':World} {nb tb ob:Nat} {ps:List (Int×Bool)} (h:NaAt W nb tb ob ps) (h0:W'.heap[nb]? = W.heap[nb]?) (h1:W'.heap[tb]? = W.heap[tb]?) (h2:W'.heap[ob]? = W.heap[ob]?):NaAt W' nb tb ob ps:=
 ⟨h.len,(World.cell?_of_block (a:=⟨nb,0,none⟩) h0).trans h.c0,(World.cell?_of_block (a:=⟨nb,1,none⟩) h0).trans h.c1,fun i hi=>(World.cell?_of_block (a:=⟨tb,i,none⟩) h1).trans (h.t i hi),fun i hi=>(World.cell?_of_block (a:=⟨ob,i,none⟩) h2).trans (h.o i hi),
  fun i=>(World.frozen?_of_block (a:=⟨tb,i,none⟩) h1).trans (h.ft i),fun i=>(World.frozen?_of_block (a:=⟨ob,i,none⟩) h2).trans (h.fo i),h.ne⟩
theorem NaAt.lt {W:World} {nb tb ob:Nat} {ps:List (Int×Bool)} (h:NaAt W nb tb ob ps):nb<W.heap.size/\tb<W.heap.size/\ob<W.heap.size:=
 ⟨World.block_lt_of_cell? W _ h.c0,World.block_lt_of_cell? W _ (h.t 0 (by omega)),World.block_lt_of_cell? W _ (h.o 0 (by omega))⟩
theorem NaAt.below {W W':World} {nb tb ob:Nat} {ps:List (Int×Bool)} (h:NaAt W nb tb ob ps) (hb:Below W.heap.size W W'):NaAt W' nb tb ob ps:=
 h.same (hb.block _ h.lt.1) (hb.block _ h.lt.2.1) (hb.block _ h.lt.2.2)
theorem NaAt.setOut {W:World} {nb tb ob:Nat} {ps:List (Int×Bool)} (h:NaAt W nb tb ob ps) (i:Nat) (hi:i<64) (b:Bool):NaAt (W.setCell ⟨ob,i,none⟩ (.bool b)) nb tb ob (ps.set i ((ps.getD i default).1,b)):=by
 have h0:(W.setCell ⟨ob,i,none⟩ (.bool b)).heap[nb]? = W.heap[nb]?:=Below.heap_setCell _ _ _ _ h.ne.2.1;have h1:(W.setCell ⟨ob,i,none⟩ (.bool b)).heap[tb]? = W.heap[tb]?:=Below.heap_setCell _ _ _ _ h.ne.2.2;refine⟨by rw[List.length_set];exact h.len,(World.cell?_of_block (a:=⟨nb,0,none⟩) h0).trans h.c0,(World.cell?_of_block (a:=⟨nb,1,none⟩) h0).trans h.c1,fun j hj=>?_,fun j hj=>?_,
  fun i=>(World.frozen?_of_block (a:=⟨tb,i,none⟩) h1).trans (h.ft i),fun i=>by rw[World.frozen?_setCell];exact h.fo i,h.ne⟩
 · rw[World.cell?_of_block (a:=⟨tb,j,none⟩) h1,h.t j hj];by_cases e:i=j
   · subst e;simp[List.getD_eq_getElem?_getD,List.getElem?_set,h.len,hi]
   · simp[List.getD_eq_getElem?_getD,List.getElem?_set,e]
 · by_cases e:i=j
   · subst e;rw[World.cell?_setCell_same _ _ _ (h.o i hj)];simp[List.getD_eq_getElem?_getD,List.getElem?_set,h.len,hi]
   · rw[za _ (by simp[e]),h.o j hj];simp[List.getD_eq_getElem?_getD,List.getElem?_set,e]
theorem NaAt.setTurn {W:World} {nb tb ob:Nat} {ps:List (Int×Bool)} (h:NaAt W nb tb ob ps) (i:Nat) (hi:i<64) (b:Int):NaAt (W.setCell ⟨tb,i,none⟩ (I b)) nb tb ob (ps.set i (b,(ps.getD i default).2)):=by
 have h0:(W.setCell ⟨tb,i,none⟩ (I b)).heap[nb]? = W.heap[nb]?:=Below.heap_setCell _ _ _ _ h.ne.1;have h1:(W.setCell ⟨tb,i,none⟩ (I b)).heap[ob]? = W.heap[ob]?:=Below.heap_setCell _ _ _ _ (fun e=>h.ne.2.2 e.symm);refine⟨by rw[List.length_set];exact h.len,(World.cell?_of_block (a:=⟨nb,0,none⟩) h0).trans h.c0,(World.cell?_of_block (a:=⟨nb,1,none⟩) h0).trans h.c1,fun j hj=>?_,fun j hj=>?_,
  fun i=>by rw[World.frozen?_setCell];exact h.ft i,fun i=>(World.frozen?_of_block (a:=⟨ob,i,none⟩) h1).trans (h.fo i),h.ne⟩
 · by_cases e:i=j
   · subst e;rw[World.cell?_setCell_same _ _ _ (h.t i hj)];simp[List.getD_eq_getElem?_getD,List.getElem?_set,h.len,hi]
   · rw[za _ (by simp[e]),h.t j hj];simp[List.getD_eq_getElem?_getD,List.getElem?_set,e]
 · rw[World.cell?_of_block (a:=⟨ob,j,none⟩) h1,h.o j hj];by_cases e:i=j
   · subst e;simp[List.getD_eq_getElem?_getD,List.getElem?_set,h.len,hi]
   · simp[List.getD_eq_getElem?_getD,List.getElem?_set,e]
theorem UF (nb tb ob:Nat) (ps:List (Int×Bool)) (id:Int) (W:World) (h:NaAt W nb tb ob ps) (h0:0<=id) (h2:id<=4611686018427387904) (hz:xj ps) :
 Calls Tryz.prog 132 #[.pointer (some ⟨nb,0,none⟩),I id] W fun e w'=>e=.returned (.bool (hasB ps id))/\W=w':=by
 obtain⟨j,hj⟩:∃j:Nat,id%64=(j:Int):=⟨(id%64).toNat,by omega⟩
 have pW:j<64:=by omega
 have c0:=h.c0;have c1:=h.c1;have t:=h.t j pW;have o:=h.o j pW;obtain⟨z1,z2⟩:=hz.2 j (by rw[h.len];exact pW);have hr:hasB ps id=((ps.getD j default).2&&((ps.getD j default).1-1==id/64)):=by
  unfold hasB;rw[hj];simp[h0,h.len,pW]
 rw[hr];generalize(ps.getD j default).1=tn at t z1 z2⊢;generalize(ps.getD j default).2=bt at o⊢;have hd:Int.tdiv id 64=id/64:=Int.tdiv_eq_ediv_of_nonneg h0;have hm:Int.tmod id 64=(j:Int):=by rw[Int.tmod_eq_emod_of_nonneg h0,hj]
 have DX:(j:Int)<64:=by omega
 have oh:0<=(j:Int):=by omega
 have kw:IntKind.i64.wrap (tn-1)=tn-1:=by rw[IntKind.wrap_i64];omega
 have kd:wrap64 (id/64)=id/64:=by unfold wrap64;omega
 generalize id/64=dv at hd kd⊢;clear h hr hz;cases bt with
 | true=>
  by_cases e:tn-1=dv
  · have e1:(tn-1==dv)=true:=by simp[e]
    rw[e1];go_enter Tryz.func132,Tryz.ntmps132;go_wp2_with fail
    go_ret
    exact⟨rfl,rfl⟩
  · have e1:(tn-1==dv)=false:=by simp[e]
    rw[e1];go_enter Tryz.func132,Tryz.ntmps132;go_wp2_with fail
    go_ret
    exact⟨rfl,rfl⟩
 | false=>
  go_enter Tryz.func132,Tryz.ntmps132;go_wp2_with fail
  go_ret
  exact⟨rfl,rfl⟩
theorem dP (nb tb ob:Nat) (ps:List (Int×Bool)) (id:Int) (W:World) (h:NaAt W nb tb ob ps) (h0:0<=id) (h2:id<=4611686018427387904) (hz:xj ps) (hb:hasB ps id=true) :
 Calls Tryz.prog 74 #[.pointer (some ⟨nb,0,none⟩),I id] W fun e w'=>e=.returned (I 0)/\NaAt w' nb tb ob (uq ps id).2/\Touch (fun k=>k=nb\/k=tb\/k=ob) W w':=by
 have aB:=UF nb tb ob ps id W h h0 h2 hz;rw[hb] at aB;obtain⟨j,hj⟩:∃j:Nat,id%64=(j:Int):=⟨(id%64).toNat,by omega⟩
 have pW:j<64:=by omega
 have c1:=h.c1;have o:=h.o j pW;have fo:=h.fo j;have HR:=lH (h.setOut j pW false);have hf:(uq ps id).2=ps.set j ((ps.getD j default).1,false):=by
  unfold uq;rw[if_pos hb,hj];rfl
 rw[<- hf] at HR;have hm:Int.tmod id 64=(j:Int):=by rw[Int.tmod_eq_emod_of_nonneg h0,hj]
 have DX:(j:Int)<64:=by omega
 have oh:0<=(j:Int):=by omega
 have HT:Hid (Touch (fun k=>k=nb\/k=tb\/k=ob) W (W.setCell ⟨ob,j,none⟩ (.bool false))):=lH ((Touch.refl _ _).setCell (t:=none) (.inl (.inr (.inr rfl))) _);clear h hz hb hf hj;go_enter Tryz.func74,Tryz.ntmps74;go_wp2_with fail
 refine aB.mono ?_;rintro e w1 ⟨rfl,rfl⟩;go_wp2_with fail
 go_ret
 exact⟨rfl,HR.out,HT.out⟩
theorem fY (ps:List (Int×Bool)) (i:Nat) (h:i<ps.length) (h1:(ps.getD i default).2=false) (h2:∀j,j<i->(ps.getD j default).2=true):ps.findIdx? (fun p=>!p.2)=some i:=by
 rw[List.findIdx?_eq_some_iff_getElem];refine⟨h,?_,fun j hj=>?_⟩
 · rw[kQ h] at h1;simp[h1]
 · have:=h2 j hj;rw[kQ (by omega)] at this;simp[this]
theorem cB (ps:List (Int×Bool)) (h2:∀j,j<ps.length->(ps.getD j default).2=true):ps.findIdx? (fun p=>!p.2)=none:=by
 rw[List.findIdx?_eq_none_iff];intro x hx;obtain⟨j,hj,rfl⟩:=List.mem_iff_getElem.1 hx;have:=h2 j hj;rw[kQ hj] at this;simp[this]
theorem dQ (nb tb ob:Nat) (ps:List (Int×Bool)) (W:World) (h:NaAt W nb tb ob ps) (hz:xj ps) :
 Calls Tryz.prog 67 #[.pointer (some ⟨nb,0,none⟩)] W fun e w'=>e=.returned (.tuple #[I (ym ps).1,I (ym ps).2.1])/\NaAt w' nb tb ob (ym ps).2.2/\Touch (fun k=>k=nb\/k=tb\/k=ob) W w':=by
 have c0:=h.c0;have c1:=h.c1;have HL:=lH h.len;have HN:=lH h;have HZ:=lH hz;obtain⟨n1,n2,n3⟩:=h.ne;clear h hz;go_enter Tryz.func67,Tryz.ntmps67;go_wp2_with fail
 go_loop [4] (fun x=>∃k:Nat,k<=64/\x=I k/\Hid (∀j,j<k->(ps.getD j default).2=true)) (fun x=>64-(intOf x).toNat)
 case atStart=>exact⟨0,Nat.zero_le _,rfl,lH (fun j hj=>absurd hj (Nat.not_lt_zero j))⟩
 case round=>
  obtain⟨k,hk,rfl,HK⟩:=hrel;have aX:0<=(k:Int):=by omega
  by_cases aw:k<64
  · have o:=HN.out.o k aw;have t:=HN.out.t k aw;have fo:=HN.out.fo k;have ft:=HN.out.ft k;obtain⟨z1,z2⟩:=HZ.out.2 k (by rw[HL.out];exact aw);have iJ:(k:Int)<64:=by omega
    obtain⟨bt,sx⟩:∃x,(ps.getD k default).2=x:=⟨_,rfl⟩
    rw[sx] at o;have ou:=lH sx;clear sx;cases bt with
    | true=>
     have Cx:Hid (∀j,j<k+1->(ps.getD j default).2=true):=lH (fun j hj=>by
      by_cases e:j<k
      · exact HK.out j e
      · obtain rfl:j=k:=by omega
        exact ou.out)
     clear t z1 z2 fo ft;go_wp2_with fail
     go_round
     case rel=>exact⟨k+1,by omega,by go_num,Cx⟩
     case measure=>simp[intOf];omega
    | false=>
     obtain⟨tn,Eo⟩:∃x,(ps.getD k default).1=x:=⟨_,rfl⟩
     have hf:=fY ps k (by rw[HL.out];exact aw) ou.out HK.out;have eZ:ym ps=((k:Int)+64*tn,0,ps.set k (tn+1,true)):=by
      unfold ym;rw[hf];simp only[Eo]
     have Aa:=(HN.out.setOut k aw true).setTurn k aw (tn+1);rw[Eo,List.set_set] at Aa;have e9:((ps.set k (tn,true)).getD k default).2=true:=by simp[List.getD_eq_getElem?_getD,List.getElem?_set,HL.out,aw]
     rw[e9] at Aa;rw[Eo] at t z1 z2;have s8:=lH eZ;have oC:=lH Aa;have HT:Hid (Touch (fun k=>k=nb\/k=tb\/k=ob) W ((W.setCell ⟨ob,k,none⟩ (.bool true)).setCell ⟨tb,k,none⟩ (I (tn+1)))):=lH (((Touch.refl _ _).setCell (t:=none) (.inl (.inr (.inr rfl))) _).setCell (t:=none) (.inl (.inr (.inl rfl))) _);have kw1:IntKind.i64.wrap (tn+1)=tn+1:=by rw[IntKind.wrap_i64];omega
     have kw2:IntKind.i64.wrap (tn+1-1)=tn:=by rw[IntKind.wrap_i64];omega
     have kw3:IntKind.i64.wrap (64*tn)=64*tn:=by rw[IntKind.wrap_i64];omega
     have kw4:IntKind.i64.wrap ((k:Int)+64*tn)=(k:Int)+64*tn:=by rw[IntKind.wrap_i64];omega
     clear hf eZ Aa Eo e9;go_wp2_with fail
     go_ret2
     exact⟨by rw[s8.out];rfl,by rw[s8.out];exact oC.out,HT.out⟩
  · obtain rfl:k=64:=by omega
    have hf:=cB ps (by rw[HL.out];exact HK.out);have eZ:ym ps=(0,3,ps):=by
     unfold ym;rw[hf]
    have s8:=lH eZ;clear eZ hf;go_wp2_with fail
    go_ret2
    exact⟨by rw[s8.out];rfl,by rw[s8.out];exact HN.out,Touch.refl _ _⟩
structure GrAt (W:World) (gb:Nat) (gs:List (Bool×Int)):Prop where
 len:gs.length=16
 up:∀i,i<16->W.cell? ⟨gb,i,none⟩=some (I (gs.getD i default).2)
 inn:∀i,i<16->W.cell? ⟨gb,16+i,none⟩=some (.bool (gs.getD i default).1)
 live:∀i,W.frozen? ⟨gb,i,none⟩=false
theorem GrAt.same {W W':World} {gb:Nat} {gs:List (Bool×Int)} (h:GrAt W gb gs) (hb:W'.heap[gb]? = W.heap[gb]?):GrAt W' gb gs:=
 ⟨h.len,fun i hi=>(World.cell?_of_block (a:=⟨gb,_,none⟩) hb).trans (h.up i hi),fun i hi=>(World.cell?_of_block (a:=⟨gb,_,none⟩) hb).trans (h.inn i hi),fun i=>(World.frozen?_of_block (a:=⟨gb,i,none⟩) hb).trans (h.live i)⟩
theorem GrAt.lt {W:World} {gb:Nat} {gs:List (Bool×Int)} (h:GrAt W gb gs):gb<W.heap.size:=World.block_lt_of_cell? W _ (h.up 0 (by omega))
theorem GrAt.below {W W':World} {gb:Nat} {gs:List (Bool×Int)} (h:GrAt W gb gs) (hb:Below W.heap.size W W'):GrAt W' gb gs:=h.same (hb.block _ h.lt)
theorem GrAt.set {W:World} {gb:Nat} {gs:List (Bool×Int)} (h:GrAt W gb gs) (k:Nat) (hk:k<16) (a:Bool) (u:Int) :
 GrAt ((W.setCell ⟨gb,16+k,none⟩ (.bool a)).setCell ⟨gb,k,none⟩ (I u)) gb (gs.set k (a,u)):=by
 have hg:∀i,i<16->(gs.set k (a,u)).getD i default=if k=i then(a,u) else gs.getD i default:=fun i hi=>by
  by_cases e:k=i
  · subst e;rw[if_pos rfl];simp[List.getD_eq_getElem?_getD,List.getElem?_set,h.len,hk]
  · rw[if_neg e];simp[List.getD_eq_getElem?_getD,List.getElem?_set,e]
 refine⟨by simpa using h.len,fun i hi=>?_,fun i hi=>?_,fun i=>by rw[World.frozen?_setCell,World.frozen?_setCell];exact h.live i⟩
 · rw[hg i hi];by_cases e:k=i
   · subst e;rw[if_pos rfl];exact World.cell?_setCell_same _ _ _ (by rw[za _ (by simp)];exact h.up k hk)
   · rw[if_neg e,za _ (by simp[e]),za _ (by simp <;> omega)];exact h.up i hi
 · rw[hg i hi,za _ (by simp <;> omega)];by_cases e:k=i
   · subst e;rw[if_pos rfl];exact World.cell?_setCell_same _ _ _ (h.inn k hk)
   · rw[if_neg e,za _ (by simp[e])];exact h.inn i hi
theorem qn (gb:Nat) (gs:List (Bool×Int)) (id:Int) (W:World) (h:GrAt W gb gs):Calls Tryz.prog 66 #[.pointer (some ⟨gb,0,none⟩),I id] W fun e w'=>e=.returned (.bool (zL gs id))/\W=w':=by
 by_cases h0:0<=id
 · by_cases h1:id<16
   · obtain⟨k,rfl⟩:=Int.eq_ofNat_of_zero_le h0;have hk:k<16:=by omega
     have c:=h.inn k hk;have hr:zL gs k=(gs.getD k default).1:=by unfold zL;rw[decide_eq_true h0,decide_eq_true h1];rfl
     rw[hr];generalize(gs.getD k default).1=b at c⊢;have e1:(Int.toNat k)=k:=by omega
     clear h hr;go_enter Tryz.func66,Tryz.ntmps66;go_wp2_with fail
     go_ret
     exact⟨by simp,rfl⟩
   · have hr:zL gs id=false:=by unfold zL;simp;omega
     rw[hr];clear h hr;go_enter Tryz.func66,Tryz.ntmps66;go_wp2_with fail
     go_ret
     exact⟨rfl,rfl⟩
 · have hr:zL gs id=false:=by unfold zL;simp;omega
   rw[hr];clear h hr;go_enter Tryz.func66,Tryz.ntmps66;go_wp2_with fail
   go_ret
   exact⟨rfl,rfl⟩
theorem Us {W:World} {gb:Nat} (h:W.heap[gb]? = some (.cells #[I (-1),I 0,I 0,I 0,I 0,I 0,I 0,I 0,I 0,I 0,I 0,I 0,I 0,I 0,I 0,I 0,.bool true,.bool false,.bool false,.bool false,.bool false,.bool false,.bool false,.bool false,.bool false,.bool false,.bool false,.bool false,.bool false,.bool false,.bool false,.bool false] 136 (0,0))):GrAt W gb vU:=by
 refine⟨rfl,fun i hi=>?_,fun i hi=>?_,fun i=>?_⟩
 · simp only[World.cell?,h];have:i=0\/i=1\/i=2\/i=3\/i=4\/i=5\/i=6\/i=7\/i=8\/i=9\/i=10\/i=11\/i=12\/i=13\/i=14\/i=15:=by omega
   rcases this with rfl | rfl | rfl | rfl | rfl | rfl | rfl | rfl | rfl | rfl | rfl | rfl | rfl | rfl | rfl | rfl <;> rfl
 · simp only[World.cell?,h];have:i=0\/i=1\/i=2\/i=3\/i=4\/i=5\/i=6\/i=7\/i=8\/i=9\/i=10\/i=11\/i=12\/i=13\/i=14\/i=15:=by omega
   rcases this with rfl | rfl | rfl | rfl | rfl | rfl | rfl | rfl | rfl | rfl | rfl | rfl | rfl | rfl | rfl | rfl <;> rfl
 · simp only[World.frozen?,h];simp
theorem dV (W:World):Calls Tryz.prog 26 #[] W fun e w'=>e=.returned (.pointer (some ⟨W.heap.size,0,none⟩))/\GrAt w' W.heap.size vU/\Below W.heap.size W w':=by
 go_enter Tryz.func26,Tryz.ntmps26;go_wp2_with fail
 go_region
 all_goals
  go_wp2_with fail
  go_ret
  exact⟨rfl,(Us (heap_alloc_new _ _)).same rfl,((Below.refl _ _).alloc (Nat.le_refl _) _).drew⟩
def J4:Value->Nat
 | .slice _ n _=>n
 | _=>0
def VK (W:World) (gb:Nat) (gs:List (Bool×Int)) (xs:List G16) (k:Nat) (id:Int) (v:Value) (wr:World):Prop:=
 zq gs id (xs.drop k)/\wr.ownsRow W.heap.size 3 1 v k ((xs.take k).map fun x=>I x.1)/\Below W.heap.size W wr
theorem zq.next {gs:List (Bool×Int)} {id:Int} {xs:List G16} {k:Nat} (h:zq gs id (xs.drop k)) (hk:k<xs.length):xs[k].1=id/\zL gs id=true/\zq gs (upG gs id) (xs.drop (k+1)):=by
 rw[List.drop_eq_getElem_cons hk] at h;exact h
theorem zq.stop {gs:List (Bool×Int)} {id:Int} {xs:List G16} (h:zq gs id (xs.drop xs.length)):zL gs id=false:=by
 rw[List.drop_length] at h;exact h
theorem ZV {wr w2:World} {o:Obj} {row:Option Nat} {b i B:Nat} {v:Value} (hg:(wr.alloc o).grownBy w2 row) (h:wr.cell? ⟨b,i,none⟩=some v) (ay:∀j,row=some j->B<=j) (ah:b<B):w2.cell? ⟨b,i,none⟩=some v:=
 hg.cell (Lib.cell?_alloc_some _ h) (fun e=>by have:=ay b e.symm;omega)
theorem jP (gb:Nat) (gs:List (Bool×Int)) (id:Int) (xs:List G16) (W:World) (h:GrAt W gb gs) (hL:zq gs id xs) (ag:xs.length<=100) :
 Calls Tryz.prog 79 #[.pointer (some ⟨gb,0,none⟩),I id] W fun e w'=>∃v,e=.returned v/\w'.ownsRow W.heap.size 3 1 v xs.length (xs.map fun x=>I x.1)/\Below W.heap.size W w':=by
 obtain⟨i0,hi,eG,aI,et⟩:=info_parts dD;have HI:Hid (VK W gb gs xs 0 id (.slice none 0 0) W):=lH ⟨by simpa using hL,World.ownsRow_nil _ _ _ _,Below.refl _ _⟩;have HG:=lH h;have mL:=lH ag;clear h hL ag;go_enter Tryz.func79,Tryz.ntmps79;go_wp2_with fail
 go_loopw [1,5] (fun x y wr=>∃(k:Nat) (id':Int) (v:Value),k<=xs.length/\x=I id'/\y=v/\Hid (VK W gb gs xs k id' v wr)) (fun _ y _=>xs.length-J4 y)
 case atStart=>exact⟨0,id,_,Nat.zero_le _,rfl,rfl,HI⟩
 case round=>
  obtain⟨k,id',v,hk,rfl,rfl,HP⟩:=hrel;obtain⟨hP,hR,hB⟩:=HP.out;obtain⟨a,c,rfl,-⟩:=zH hR;have Bd:=HG.out.below hB;have aB:=qn gb gs id' wr Bd;by_cases aw:k<xs.length
  · obtain⟨p1,p2,p3⟩:=hP.next aw;rw[p2] at aB;obtain⟨u,rfl⟩:∃u:Nat,id'=(u:Int):=⟨id'.toNat,by unfold zL at p2;simp at p2;omega⟩
    have hu:u<16:=by unfold zL at p2;simp at p2;omega
    have c0:=Bd.up u hu;have Tq:upG gs u=(gs.getD u default).2:=rfl;rw[<- Tq] at c0;generalize upG gs u=nx at c0 p3;have T1:(u:Int)<16:=by omega
    have TZ:0<=(u:Int):=by omega
    have Ir:=Bd.lt;have eZ:(xs.take (k+1)).map (fun x:G16=>I x.1)=(xs.take k).map (fun x:G16=>I x.1)++[I u]:=by
     rw[List.take_succ_eq_append_getElem aw,List.map_append,List.map_cons,List.map_nil,p1]
    have Lp:=lH p3;have HB:=lH hB;have HR:=lH hR;have rX:Hid (∀j,Value.ownBlock (.slice a k c)=some j->W.heap.size<=j):=lH (fun j hj=>(hR.lt j hj).1);have s8:=lH eZ;have me:Hid (k<=100):=lH (by have:=mL.out;omega);have sO:Hid (W.heap.size<=wr.heap.size/\gb<W.heap.size):=lH ⟨hB.size,HG.out.lt⟩;clear hP hR hB p1 p2 p3 eZ Bd HP;go_wp2_with fail
    refine aB.mono ?_;rintro e w1 ⟨rfl,rfl⟩;go_wp2_with (at_builtin;refine yK rfl _ _ _ rfl W.heap.size 3 i0 _ 1 8 Tryz.underlying22 hi eG aI et rfl (by decide) (.slice a k c) k _ rfl (HR.out.alloc _) (some ⟨wr.heap.size,0,none⟩) 1 1 [I u] rfl (vL (cs:=#[I u]) (by simp[Value.oneCell'])) (by have:=me.out;unfold maxLen;omega) (by have:=me.out;omega) (by have:=sO.out;simp;omega) (k+1) rfl _ rfl ?_;intro a2 q2 w2 eh aR nm;have c2:=ZV aR c0 rX.out sO.out.2)
    rw[<- s8.out] at eh;have sK:=rX.out;have ib:Below W.heap.size W w2:=(HB.out.alloc HB.out.size _).grown aR (by have:=HB.out.size;simp;omega) sK;have au:Hid (VK W gb gs xs (k+1) nx (.slice a2 (k+1) q2) w2):=lH ⟨Lp.out,eh,ib⟩;clear eh aR nm ib c0 sK;go_roundw
    case rel=>exact⟨k+1,nx,_,aw,rfl,rfl,au⟩
    case measure=>simp[J4];omega
  · obtain rfl:k=xs.length:=by omega
    have:=zq.stop hP;rw[this] at aB;rw[List.take_length] at hR;have HB:=lH hB;have HR:=lH hR;clear hP hR hB Bd HP this;go_wp2_with fail
    refine aB.mono ?_;rintro e w1 ⟨rfl,rfl⟩;go_wp2_with fail
    go_ret
    exact⟨_,rfl,HR.out,HB.out⟩
end
def vw (b:Int) (ps:List Pt):Int:=(ps.map fun p=>(p.v-b)*p.w).sum
def xK (ps:List Pt):Int:=(ps.map (·.w)).sum
theorem qG (b:Int) (p:Pt) (l:List Pt):vw b (p::l)=(p.v-b)*p.w+vw b l:=by simp[vw]
theorem cj (p:Pt) (l:List Pt):xK (p::l)=p.w+xK l:=by simp[xK]
theorem Z2 (m:Int):∀(ps:List Pt) (s:Nat),(∀p∈ps,m<=p.v/\0<=p.w)->((ps.foldl (fun s p=>s+dN m p*p.w.toNat) s:Nat):Int)=(s:Int)+vw m ps
 | [],s,_=>by simp[vw]
 | p::l,s,h=>by
  obtain⟨h1,h2⟩:=h p (List.mem_cons_self ..);rw[List.foldl_cons,Z2 m l _ (fun q hq=>h q (List.mem_cons_of_mem _ hq)),qG];have e1:((dN m p:Nat):Int)=p.v-m:=by unfold dN;omega
  have e2:((p.w.toNat:Nat):Int)=p.w:=by omega
  rw[Int.natCast_add,Int.natCast_mul,e1,e2];omega
theorem ZD:∀(ps:List Pt) (s:Nat),(∀p∈ps,0<=p.w)->((ps.foldl (fun s p=>s+p.w.toNat) s:Nat):Int)=(s:Int)+xK ps
 | [],s,_=>by simp[xK]
 | p::l,s,h=>by
  have h2:=h p (List.mem_cons_self ..);rw[List.foldl_cons,ZD l _ (fun q hq=>h q (List.mem_cons_of_mem _ hq)),cj];have e2:((p.w.toNat:Nat):Int)=p.w:=by omega
  rw[Int.natCast_add,e2];omega
theorem fI (b m:Int):∀ps:List Pt,vw b ps=vw m ps+(m-b)*xK ps
 | []=>by simp[vw,xK]
 | p::l=>by
  rw[qG,qG,cj,fI b m l,Int.mul_add];have:(p.v-b)*p.w=(p.v-m)*p.w+(m-b)*p.w:=by rw[<- Int.add_mul];congr 1;omega
  omega
theorem dR {b m:Int} {ps:List Pt} (h:∀p∈ps,m<=p.v/\0<=p.w) {p:Pt} (hp:p∈ps):(p.v-b)*xK ps<=vw b ps↔¬vT m ps<dN m p*uQ ps:=by
 have e1:((vT m ps:Nat):Int)=vw m ps:=by have:=Z2 m ps 0 h;simpa [vT] using this
 have e2:((uQ ps:Nat):Int)=xK ps:=by have:=ZD ps 0 (fun q hq=>(h q hq).2);simpa [uQ] using this
 have e3:((dN m p:Nat):Int)=p.v-m:=by have:=(h p hp).1;unfold dN;omega
 have e4:(vT m ps<dN m p*uQ ps)↔vw m ps<(p.v-m)*xK ps:=by
  rw[<- e1,<- e2,<- e3,<- Int.natCast_mul];omega
 rw[e4,fI b m ps];have:(p.v-b)*xK ps=(p.v-m)*xK ps+(m-b)*xK ps:=by rw[<- Int.add_mul];congr 1;omega
 omega
theorem fG {m:Int} {S T:Nat}:∀(ps:List Pt) (q:Pt),∃r,ps.foldl (xw m S T) (some q)=some r
 | [],q=>⟨q,rfl⟩
 | p::l,q=>by
  rw[List.foldl_cons];have:∃r,xw m S T (some q) p=some r:=by
   unfold xw;split
   · exact⟨q,rfl⟩
   · simp only
     split
     · exact⟨p,rfl⟩
     · exact⟨q,rfl⟩
  obtain⟨r,hr⟩:=this;rw[hr];exact fG l r
theorem bm {m:Int} {S T:Nat}:∀(ps:List Pt) (b:Option Pt),(∃p∈ps,¬S<dN m p*T)->∃r,ps.foldl (xw m S T) b=some r
 | [],_,⟨p,hp,_⟩=>by cases hp
 | q::l,b,⟨p,hp,he⟩=>by
  rw[List.foldl_cons];rcases List.mem_cons.1 hp with rfl | hp
  · have:∃r,xw m S T b p=some r:=by
     unfold xw;rw[if_neg he];cases b with
     | none=>exact⟨p,rfl⟩
     | some q=>
      simp only
      split
      · exact⟨p,rfl⟩
      · exact⟨q,rfl⟩
    obtain⟨r,hr⟩:=this;rw[hr];exact fG l r
  · exact bm l _ ⟨p,hp,he⟩
theorem X9 {m:Int}:∀{ps:List Pt},(∀p∈ps,m<=p.v/\0<=p.w)->0<=vw m ps
 | [],_=>by simp[vw]
 | p::l,h=>by
  rw[qG];obtain⟨h1,h2⟩:=h p (List.mem_cons_self ..);have:=X9 (ps:=l) (fun q hq=>h q (List.mem_cons_of_mem _ hq));have h3:0<=(p.v-m)*p.w:=Int.mul_nonneg (by omega) h2;omega
theorem XK {ps:List Pt} (ay:ps≠[]) (h:∀p∈ps,0<=p.w):∃r,xv (yv ps).v (vT (yv ps).v ps) (uQ ps) ps=some r:=by
 refine bm ps none ⟨yv ps,xH ps ay,?_⟩;have h2:∀p∈ps,(yv ps).v<=p.v/\0<=p.w:=fun p hp=>⟨uD ps p hp,h p hp⟩
 rw[<- dR (b:=(yv ps).v) h2 (xH ps ay)];have:=X9 h2;simpa using this
theorem dJ (ps:List Pt) (k:Nat) (q:Pt) (hk:ps[k]? = some q) (h1:0<k):yv (ps.take (k+1))=vI (yv (ps.take k)) q:=by
 obtain⟨hl,rfl⟩:=List.getElem?_eq_some_iff.1 hk;rw[List.take_succ_eq_append_getElem hl];cases ps with
 | nil=>simp at hl
 | cons p l=>
  cases k with
  | zero=>omega
  | succ k=>
   rw[List.take_succ_cons,List.cons_append];show List.foldl vI p (_++_)=vI (List.foldl vI p _) _;rw[List.foldl_append];rfl
def xz (ps:List Pt) (k f:Nat):Prop:=ps[f]? = some (yv (ps.take (k-1+1)))
theorem xz.zero {ps:List Pt} (h:ps≠[]):xz ps 0 0:=by
 cases ps with
 | nil=>exact absurd rfl h
 | cons p l=>simp[xz,yv]
theorem xz.move {ps:List Pt} {k f:Nat} {p q:Pt} (h:xz ps k f) (hf:ps[f]? = some p) (hq:ps[k]? = some q) (ah:q.v<p.v):xz ps (k+1) k:=by
 unfold xz at h⊢;cases k with
 | zero=>
  exfalso
  have hm:yv (ps.take 1)=q:=by
   cases ps with
   | nil=>cases hq
   | cons a l=>simp at hq;subst hq;rfl
  rw[h] at hf;obtain rfl:=Option.some.inj hf;simp only[Nat.zero_sub,Nat.zero_add] at ah;rw[hm] at ah;omega
 | succ k=>
  simp only[Nat.add_sub_cancel] at h⊢;rw[dJ ps (k+1) q hq (by omega),hq];rw[h] at hf;obtain rfl:=Option.some.inj hf;simp[vI,ah]
theorem xz.stay {ps:List Pt} {k f:Nat} {p q:Pt} (h:xz ps k f) (hf:ps[f]? = some p) (hq:ps[k]? = some q) (ah:¬q.v<p.v):xz ps (k+1) f:=by
 unfold xz at h⊢;cases k with
 | zero=>simpa using h
 | succ k=>
  simp only[Nat.add_sub_cancel] at h⊢;rw[dJ ps (k+1) q hq (by omega),h];rw[h] at hf;obtain rfl:=Option.some.inj hf;simp[vI,ah]
theorem xz.fin {ps:List Pt} {f:Nat} (h:xz ps ps.length f) (ay:ps≠[]):ps[f]? = some (yv ps):=by
 unfold xz at h;rwa [List.take_of_length_le (by omega)] at h
def gL (m:Int) (S T:Nat) (ps:List Pt) (k:Nat) (s:Int):Prop:=
 (s=-1/\xv m S T (ps.take k)=none)\/∃j:Nat,s=(j:Int)/\j<ps.length/\xv m S T (ps.take k)=ps[j]?
theorem ZS (m:Int) (S T:Nat) (ps:List Pt) (k:Nat) (q:Pt) (hk:ps[k]? = some q):xv m S T (ps.take (k+1))=xw m S T (xv m S T (ps.take k)) q:=by
 obtain⟨hl,rfl⟩:=List.getElem?_eq_some_iff.1 hk;rw[List.take_succ_eq_append_getElem hl];unfold xv;rw[List.foldl_append];rfl
theorem dX (b:Int) (ps:List Pt) (k:Nat) (q:Pt) (hk:ps[k]? = some q):vw b (ps.take (k+1))=vw b (ps.take k)+(q.v-b)*q.w:=by
 obtain⟨hl,rfl⟩:=List.getElem?_eq_some_iff.1 hk;rw[List.take_succ_eq_append_getElem hl];unfold vw;rw[List.map_append,List.sum_append];simp only[List.map_cons,List.map_nil,List.sum_cons,List.sum_nil,Int.add_zero]
theorem jT (ps:List Pt) (k:Nat) (q:Pt) (hk:ps[k]? = some q):xK (ps.take (k+1))=xK (ps.take k)+q.w:=by
 obtain⟨hl,rfl⟩:=List.getElem?_eq_some_iff.1 hk;rw[List.take_succ_eq_append_getElem hl];unfold xK;rw[List.map_append,List.sum_append];simp only[List.map_cons,List.map_nil,List.sum_cons,List.sum_nil,Int.add_zero]
theorem jF {d w D W:Int} (h1:-D<=d) (h2:d<=D) (h3:0<=w) (h4:w<=W) (hD:0<=D):-(D*W)<=d*w/\d*w<=D*W:=by
 refine⟨?_,Int.mul_le_mul h2 h4 h3 hD⟩;have:=Int.mul_le_mul (a:=-d) (b:=w) (c:=D) (d:=W) (by omega) h4 h3 hD;rw[Int.neg_mul] at this;omega
theorem fH (b:Int) (ps:List Pt) (h:∀p∈ps,(-1099511627776<=p.v-b/\p.v-b<=1099511627776)/\0<=p.w/\p.w<=20):∀k:Nat,k<=ps.length->(-((k:Int)*21990232555520)<=vw b (ps.take k)/\vw b (ps.take k)<=(k:Int)*21990232555520)/\0<=xK (ps.take k)/\xK (ps.take k)<=(k:Int)*20
 | 0,_=>by simp[vw,xK]
 | k+1,hk=>by
  have hg:ps[k]? = some ps[k]:=List.getElem?_eq_getElem (by omega);rw[dX b ps k _ hg,jT ps k _ hg];obtain⟨⟨i1,i2⟩,i3,i4⟩:=fH b ps h k (by omega);obtain⟨⟨a1,a2⟩,a3,a4⟩:=h _ (List.getElem_mem (show k<ps.length by omega));obtain⟨m1,m2⟩:=jF a1 a2 a3 a4 (by omega);omega
section
attribute [local go_sem] Oper.semAt_some
theorem Zr (gb:Nat) (gs:List (Bool×Int)) (up:Int) (xs:List G16) (W:World) (h:GrAt W gb gs) (hL:zq gs up xs) (ag:xs.length<=100) (h0:(gs.getD 0 default).1=true) :
 Calls Tryz.prog 63 #[.pointer (some ⟨gb,0,none⟩),I up] W fun e w'=>e=.returned (.tuple #[I (yp gs up xs.length).1,I (yp gs up xs.length).2.1])/\GrAt w' gb (yp gs up xs.length).2.2/\Touch (fun k=>k=gb) W w':=by
 have aB:=qn gb gs up W h;have mR:=jP gb gs up xs W h hL ag;cases hh:zL gs up with
 | false=>
  have hr:yp gs up xs.length=(0,2,gs):=by unfold yp;rw[hh];rfl
  rw[hr];rw[hh] at aB;go_enter Tryz.func63,Tryz.ntmps63;go_wp2_with fail
  refine aB.mono ?_;rintro e w1 ⟨rfl,rfl⟩;go_wp2_with fail
  go_ret2
  exact⟨rfl,h,Touch.refl _ _⟩
 | true=>
  rw[hh] at aB;by_cases h4:4<=xs.length
  · have hr:yp gs up xs.length=(0,6,gs):=by unfold yp;rw[hh,if_pos rfl,if_pos h4]
    rw[hr];obtain⟨n,hn⟩:∃n,xs.length=n:=⟨_,rfl⟩
    rw[hn] at mR h4;have Sh:(4:Int)<=(n:Int):=by omega
    have HG:=lH h;clear h hr hh hn;go_enter Tryz.func63,Tryz.ntmps63;go_wp2_with fail
    refine aB.mono ?_;rintro e w1 ⟨rfl,rfl⟩;go_wp2_with fail
    refine mR.mono ?_;rintro e w1 ⟨v,rfl,aa,hB⟩;obtain⟨a,c,rfl,-⟩:=zH aa;clear aa;go_wp2_with fail
    go_ret2
    exact⟨rfl,HG.out.below hB,Touch.of_below hB⟩
  · have hr:yp gs up xs.length=vW gs up:=by unfold yp;rw[hh,if_pos rfl,if_neg h4]
    rw[hr];obtain⟨n,hn⟩:∃n,xs.length=n:=⟨_,rfl⟩
    rw[hn] at mR h4;have Sh:¬(4:Int)<=(n:Int):=by omega
    have HG:=lH h;have HZ:=lH h0;clear h hr hh hn h0;go_enter Tryz.func63,Tryz.ntmps63;go_wp2_with fail
    refine aB.mono ?_;rintro e w1 ⟨rfl,rfl⟩;go_wp2_with fail
    refine mR.mono ?_;rintro e w1 ⟨v,rfl,aa,hB⟩;obtain⟨a,c,rfl,-⟩:=zH aa;have eV:=lH (HG.out.below hB);have HT:Hid (Touch (fun k=>k=gb) W w1):=lH (Touch.of_below hB);clear aa hB;go_wp2_with fail
    go_loop [6] (fun x=>∃k:Nat,1<=k/\k<=16/\x=I k/\Hid (∀j,j<k->(gs.getD j default).1=true)) (fun x=>16-(intOf x).toNat)
    case atStart=>exact⟨1,by omega,by omega,rfl,lH (fun j hj=>by obtain rfl:j=0:=(by omega);exact HZ.out)⟩
    case round=>
     obtain⟨k,iY,hk,rfl,HK⟩:=hrel;have aX:0<=(k:Int):=by omega
     by_cases aw:k<16
     · have c1:=eV.out.inn k aw;have c2:=eV.out.up k aw;have f1:=eV.out.live (16+k);have f2:=eV.out.live k;have iJ:(k:Int)<16:=by omega
       obtain⟨b,hb⟩:∃x,(gs.getD k default).1=x:=⟨_,rfl⟩
       rw[hb] at c1;have HB:=lH hb;clear hb;cases b with
       | true=>
        have Cx:Hid (∀j,j<k+1->(gs.getD j default).1=true):=lH (fun j hj=>by
         by_cases e:j<k
         · exact HK.out j e
         · obtain rfl:j=k:=by omega
           exact HB.out)
        clear c2 f1 f2;go_wp2_with fail
        go_round
        case rel=>exact⟨k+1,by omega,by omega,by go_num,Cx⟩
        case measure=>simp[intOf];omega
       | false=>
        have HR:=lH (Xq (up:=up) (by rw[HG.out.len];exact aw) HK.out HB.out);have HS:=lH (eV.out.set k aw true up);have eR:Hid (Touch (fun k=>k=gb) W ((w1.setCell ⟨gb,16+k,none⟩ (.bool true)).setCell ⟨gb,k,none⟩ (I up))):=lH ((HT.out.setCell (t:=none) (.inl rfl) _).setCell (t:=none) (.inl rfl) _);go_wp2_with fail
        go_region
        all_goals
         go_wp2_with fail
         go_ret2
         exact⟨by rw[HR.out];rfl,by rw[HR.out];exact HS.out.same rfl,eR.out.drew⟩
     · obtain rfl:k=16:=by omega
       have HR:=lH (dB (up:=up) (gs:=gs) (by rw[HG.out.len];exact HK.out));go_wp2_with fail
       go_ret2
       exact⟨by rw[HR.out];rfl,by rw[HR.out];exact eV.out,HT.out⟩
end
end Go.Proofs.YtoiajjobecinpaaGreat
