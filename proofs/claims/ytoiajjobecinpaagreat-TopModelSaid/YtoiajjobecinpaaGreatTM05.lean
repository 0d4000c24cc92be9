/- Weigh: another weight for a task of a line. -/
import Derived.Shelf.RegionOpenPlain
import Derived.Deep.LoopGhost
import Derived.Lib.Walk
import Derived.Sort.WalkB12
import Derived.Test.YtoiajjobecinpaaGreatTM02
set_option maxHeartbeats 4000000
set_option maxRecDepth 100000
namespace Go.Proofs.YtoiajjobecinpaaGreat
open Go.RowKit Go.Shelf Go.Lib Go.Proofs
set_option linter.unusedVariables false
set_option linter.unusedSimpArgs false
def yx (l:Ln) (id w:Int):Int×Ln:=
 if yh l.ps id<0 then(2,l)
 else if zQ w=true then
  (0,⟨yY l.base (l.ps.set (yh l.ps id).toNat (T8 ⟨(l.ps[(yh l.ps id).toNat]!).id,w,(l.ps[(yh l.ps id).toNat]!).v,0⟩)),l.cur,l.ps.set (yh l.ps id).toNat (T8 ⟨(l.ps[(yh l.ps id).toNat]!).id,w,(l.ps[(yh l.ps id).toNat]!).v,0⟩)⟩)
 else(1,l)
theorem jI {W:World} {b g n cap:Nat} {l:Ln} (h:LineAt W b (.slice (some ⟨g,0,none⟩) n cap) l) (j:Nat) (hj:j<l.ps.length) (i:Nat) (v:Value) (hv:(l.ps[j]!).cells[i]? = some v):W.cell? ⟨g,j*4+i,none⟩=some v:=by
 have aa:=h.row;rcases aa.2 with⟨e,_⟩ | ⟨g',cap',cur,e,_⟩
 · cases e
 · simp only[Value.slice.injEq] at e;obtain⟨_,rfl,_⟩:=e;have:=ji aa j hj i v hv;simpa using this
theorem LineAt.setW {W:World} {b g n cap:Nat} {l:Ln} (h:LineAt W b (.slice (some ⟨g,0,none⟩) n cap) l) (k:Nat) (hk:k<l.ps.length) (ii ww pv day w:Int) (hp:l.ps[k]! = ⟨ii,ww,pv,day⟩) :
 LineAt (W.setCell ⟨g,k*4+1,none⟩ (I w)) b (.slice (some ⟨g,0,none⟩) n cap) ⟨l.base,l.cur,l.ps.set k ⟨ii,w,pv,day⟩⟩:=by
 have ay:b≠g:=fun e=>h.ne (by rw[e];rfl);have i9:(W.setCell ⟨g,k*4+1,none⟩ (I w)).heap[b]? = W.heap[b]?:=Below.heap_setCell _ _ _ _ ay;have h0:∀i,(W.setCell ⟨g,k*4+1,none⟩ (I w)).cell? ⟨b,i,none⟩=W.cell? ⟨b,i,none⟩:=fun i=>World.cell?_of_block i9;have h1:∀i,(W.setCell ⟨g,k*4+1,none⟩ (I w)).frozen? ⟨b,i,none⟩=W.frozen? ⟨b,i,none⟩:=fun i=>World.frozen?_of_block i9;refine⟨(h0 0).trans h.base,(h0 1).trans h.cur,(h0 2).trans h.sl,fun i=>(h1 i).trans (h.live i),?_,h.ne⟩;have iI:=fun j hj i v hv=>jI h j hj i v hv;rcases h.row.2 with⟨e,_⟩ | ⟨g',cap',cur,e,_,la,hn,hm,mH,_⟩
 · cases e
 · simp only[Value.slice.injEq,Option.some.injEq,Addr.mk.injEq] at e;obtain⟨⟨rfl,_⟩,rfl,rfl⟩:=e;have hl:(l.ps.set k ⟨ii,w,pv,day⟩).length=l.ps.length:=by simp
   have:=wU (ps:=l.ps.set k ⟨ii,w,pv,day⟩) (yB (i:=k*4+1) (v:=I w) la) (by rw[hl];exact hn) hm (by simp;exact mH) (fun j hj i v hv=>?_)
   · simp only
     rw[hl] at this⊢;exact this
   · have l9:j<l.ps.length:=by simpa using hj
     have hi:i<4:=by
      have:=(List.getElem?_eq_some_iff.1 hv).1;simpa [Pt.cells] using this
     rw[wH _ _ _ _ l9] at hv;by_cases e:k=j
     · subst e;rw[if_pos rfl] at hv;have h4:i=0\/i=1\/i=2\/i=3:=by omega
       have em:=iI k hk;rw[hp] at em;rcases h4 with rfl | rfl | rfl | rfl <;> simp[Pt.cells] at hv <;> subst hv
       · rw[za _ (by simp)];exact em 0 _ rfl
       · exact World.cell?_setCell_same _ _ _ (em 1 _ rfl)
       · rw[za _ (by simp)];exact em 2 _ rfl
       · rw[za _ (by simp)];exact em 3 _ rfl
     · rw[if_neg e] at hv;rw[za _ (fun e=>by have:=congrArg Addr.off e;simp at this;omega)];exact iI j l9 i v hv
def vA (b:Nat) (v:Value) (r:Int×Ln) (W:World) (e:Ending) (w':World):Prop:=
 e=.returned (I r.1)/\LineAt w' b v r.2/\Touch (lfp b v) W w'
theorem jW (b:Nat) (v:Value) (l:Ln) (id w:Int) (W:World) (h:LineAt W b v l) (ag:l.ps.length<=64)
 (hv:∀p∈l.ps,-2305843009213693952<=p.v/\p.v<=4611686018427387904) :
 Calls Tryz.prog 275 #[.pointer (some ⟨b,0,none⟩),I id,I w] W (vA b v (yx l id w) W):=by
 have ai:=vD b v l id W h;have eH:=xo w;unfold vA;rcases zB l.ps id with⟨hp,_⟩ | ⟨k,hk,hp,_⟩
 · have hr:yx l id w=(2,l):=by unfold yx;rw[if_pos (by omega)]
   rw[hp] at ai;rw[hr];have HL:=lH h;clear h hp hr;go_enter Tryz.func275,Tryz.ntmps275;go_wp2_with fail
   refine ai.mono ?_;rintro e w1 ⟨rfl,hb⟩;have HB:=lH hb;clear ai hb;go_wp2_with fail
   go_ret
   exact⟨rfl,HL.out.below HB.out,Touch.of_below HB.out⟩
 · rw[hp] at ai;by_cases hg:zQ w=true
   · obtain⟨p,ij⟩:∃p,l.ps[k]! = p:=⟨_,rfl⟩
     have Oi:=hv p (by rw[<- ij,getElem!_pos l.ps k hk];exact List.getElem_mem hk);obtain⟨ii,ww,pv,day⟩:=p;obtain⟨dd,Az⟩:∃dd,T8 ⟨ii,w,pv,0⟩=⟨ii,w,pv,dd⟩:=⟨_,rfl⟩
     have hr:yx l id w=(0,⟨yY l.base (l.ps.set k ⟨ii,w,pv,dd⟩),l.cur,l.ps.set k ⟨ii,w,pv,dd⟩⟩):=by
      unfold yx;rw[hp,if_neg (by omega),if_pos hg];simp only[Int.toNat_natCast];rw[ij,Az]
     rw[hr];rw[hg] at eH;obtain⟨v1,v2⟩:=Oi;simp only at v1 v2;have ll:=fun W'=>cz ⟨ii,w,pv,day⟩ W' (by simp only;omega) (by simp only;omega);have AA:T8 ⟨ii,w,pv,day⟩=⟨ii,w,pv,dd⟩:=Az;rw[AA] at ll;simp only[Pt.cells] at ll;obtain⟨g,cap,sX⟩:=h.form (by omega);subst sX;obtain⟨n,hn⟩:∃n,l.ps.length=n:=⟨_,rfl⟩
     rw[hn] at hk ag h⊢;have HN:=lH hn;have HL:=lH h;have A6:=lH ij;have aX:¬(k:Int)<0:=by omega
     have iY:(k:Int)<(n:Int):=by omega
     have ly:0<=(k:Int):=by omega
     clear hn h ij hp hr hv Az AA hg;go_enter Tryz.func275,Tryz.ntmps275;go_wp2_with fail
     refine ai.mono ?_;rintro e w1 ⟨rfl,hb⟩;have iM:=HL.out.below hb;obtain⟨c0,c1,c2,c3⟩:=iM.cells (by rw[HN.out];exact hk) A6.out;simp only at c0 c1 c2 c3;have cs:=iM.sl;have gf1:=iM.rowLive (k*4+1);have GV:=lH iM;have HB:=lH hb;clear ai hb iM;go_wp2_with fail
     refine(eH _).mono ?_;rintro e w2 ⟨rfl,rfl⟩;have mN:=GV.out.setW k (by rw[HN.out];exact hk) ii ww pv day w A6.out;have lR:Touch (lfp b (.slice (some ⟨g,0,none⟩) n cap)) W (w1.setCell ⟨g,k*4+1,none⟩ (I w)):=(Touch.of_below HB.out).self ((zG w1 g (k*4+1) _).wider (fun j hj=>.inr (by rw[hj];rfl)));have pA:=lH lR;clear lR;have D5:(l.ps.set k ⟨ii,w,pv,day⟩).length=n:=by simp[HN.out]
     have Mq:=lH D5;have I0:(l.ps.set k ⟨ii,w,pv,day⟩)[k]! = ⟨ii,w,pv,day⟩:=by rw[wH _ _ _ _ (by rw[HN.out];exact hk),if_pos rfl]
     have G5:=lH I0;clear D5 I0;go_upto_region 7 with fail
     clear c0 c1 c2 c3 cs gf1;generalize w1.setCell ⟨g,k*4+1,none⟩ (I w)=w3 at mN pA⊢;obtain⟨c0,c1,c2,c3⟩:=mN.cells (by show k<(l.ps.set k ⟨ii,w,pv,day⟩).length;rw[Mq.out];exact hk) G5.out;simp only at c0 c1 c2 c3;have cs:=mN.sl;have f0:=mN.rowLive (k*4);have f1:=mN.rowLive (k*4+1);have f2:=mN.rowLive (k*4+2);have f3:=mN.rowLive (k*4+3);have mN:=mN.drew;have pA:=lH pA.out.drew;go_region_law (go_simp;go_at_call 236;refine(ll _).mono ?_;rintro e w9 ⟨rfl,eQ⟩;have mN:=mN.below eQ;have pA:=lH (pA.out.self (Touch.of_below eQ));obtain⟨c0,c1,c2,c3⟩:=mN.cells (by show k<(l.ps.set k ⟨ii,w,pv,day⟩).length;rw[Mq.out];exact hk) G5.out;simp only at c0 c1 c2 c3;have cs:=mN.sl;have f0:=mN.rowLive (k*4);have f1:=mN.rowLive (k*4+1);have f2:=mN.rowLive (k*4+2);have f3:=mN.rowLive (k*4+3))
     all_goals
      have lq:=mN.setPt k (by show k<(l.ps.set k ⟨ii,w,pv,day⟩).length;rw[Mq.out];exact hk) ⟨ii,w,pv,dd⟩;rw[List.set_set] at lq;have tO:=lH (pA.out.self ((kD w9 g (k*4) ⟨ii,w,pv,dd⟩).wider (fun j hj=>.inr (by rw[hj];rfl))));have ez:=uX b _ _ _ lq (by show(l.ps.set k _).length<=64;simp only[List.length_set];rw[HN.out];exact ag);clear mN c0 c1 c2 c3 cs f0 f1 f2 f3 lq;unfold qI at ez tO;simp only at ez tO;go_wp2_with fail
      refine ez.mono ?_;rintro e w7 ⟨rfl,Ho,GG⟩;have Mk:=lH Ho;have ES:=lH (tO.out.self (GG.wider (fun j hj=>.inl hj)));clear Ho GG ez;go_wp2_with fail
      go_ret
      exact⟨rfl,Mk.out,ES.out⟩
   · have hr:yx l id w=(1,l):=by unfold yx;rw[hp,if_neg (by omega),if_neg hg]
     rw[hr];rw[show zQ w=false by simpa using hg] at eH;have HL:=lH h;have aX:¬(k:Int)<0:=by omega
     clear h hp hr hg hv;go_enter Tryz.func275,Tryz.ntmps275;go_wp2_with fail
     refine ai.mono ?_;rintro e w1 ⟨rfl,hb⟩;have HB:=lH hb;clear ai hb;go_wp2_with fail
     refine(eH _).mono ?_;rintro e w2 ⟨rfl,rfl⟩;go_wp2_with fail
     go_ret
     exact⟨rfl,HL.out.below HB.out,Touch.of_below HB.out⟩
end Go.Proofs.YtoiajjobecinpaaGreat
