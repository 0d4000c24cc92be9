/- The document's Tick and Run beside the program's, whole. The law's plain beside the program's Do: wh -/
import Derived.Test.YtoiajjobecinpaaGreatTM39
import Derived.Test.YtoiajjobecinpaaGreatTM43
import Derived.Test.YtoiajjobecinpaaGreatTM44
set_option maxHeartbeats 4000000
set_option maxRecDepth 100000
namespace Go.Proofs.YtoiajjobecinpaaGreat
open Go.RowKit Go.Shelf Go.Lib Go.Proofs
set_option linter.unusedVariables false
set_option linter.unusedSimpArgs false
section
variable {k n:Nat} {b:Int} {s:Sy} {r:RSy} {W:World} {rb:Nat} {B:RBk} {own:Nat->Option ROwn}
theorem ZC {k n:Nat} (hk:k<=400):∀(ids:List Int) (b:Int) (s:Sy),InvY k b n s->b+ids.length*(k*232792560)<=1000000000000000000->(∀x∈ids,x∈zf s.ps)->(ids.foldl yJ s).ps=s.ps
 | [],b,s,h,_,_=>rfl
 | id::ids,b,s,h,hb,aN=>by
  have ag:((id::ids).length:Int)=ids.length+1:=by simp
  rw[ag,Int.add_mul,Int.one_mul] at hb;have rJ:=kS k hk;have LQ:0<=(ids.length:Int)*((k:Int)*232792560):=Int.mul_nonneg (by omega) rJ.2;obtain⟨h1,h2,-,-⟩:=fO h hk id;have:=ZC hk ids (b+k*232792560) (yJ s id) h1 (by omega) (fun x hx=>by rw[h2];exact aN x (List.mem_cons_of_mem _ hx));exact this.trans h2
theorem Rel.names (hR:Rel s r) (hI:InvY k b n s) {ids l:List Int} (hp:ids.Perm l) (hl:s.ps=s.ps->zf s.ps=l):r.ts.length=ids.length/\ids.Perm (r.ts.map (·.id)):=by
 have h1:=hR.ids hI;rw[hl rfl] at h1;refine⟨?_,by rw[h1];exact hp⟩;have:=congrArg List.length h1;rw[List.length_map] at this;rw[this,hp.length_eq]
theorem fM {α:Type} {l:List α} {q:Nat} {x:α} (h:x∈l.take q):x∈l:=List.mem_of_mem_take h
theorem WP (hA:RAt W rb B own r) (hR:Rel s r) (hI:InvY k b n s) (hk:k<=300) (hb:b<=900000000000000000) (N y:Int) (s':Sy) (hN:N<=9223372036854775807) (hT:Xo s N y s') :
 Calls Tryz.prog 37 #[.pointer (some ⟨rb,0,none⟩),I N] W fun e w'=>e=.returned (I y)/\RQ rb own s' W w':=by
 rcases hT with⟨h1,rfl,rfl⟩ | ⟨h1,rfl,ids,hp,oK,rfl⟩
 · exact(Vi rb N W h1).mono (fun e w' ⟨he,hw⟩=>⟨he,hw ▸ RQ.of hA hR (Below.refl _ _)⟩)
 · have rL:s.acc.length=16:=hI.acc.1;have aM:∀g∈yU s.gs 16,0<=g/\g<16:=fun g hg=>by
    have:=qx (k:=16) hg;omega
   have nM:=(bj N s.gs s.acc rL hR.zero 16 (Nat.le_refl _)).1;have hz:=dt N s.gs s.acc rL hR.zero 16 (Nat.le_refl _);obtain⟨gl,eL⟩:∃gl,yU s.gs 16=gl:=⟨_,rfl⟩
   rw[eL] at aM nM⊢;have tX:InvY k b n (zU s (gl.foldl (tkA N) s.acc)):=hI.accs (xO.ticks _ s.acc hI.acc aM);have h0:Rel (zU s (gl.foldl (tkA N) s.acc)) ⟨r.cores,r.ts,r.gs,vS N r.acc 16,r.ps⟩:=by
    rw[hR.acc,<- nM];exact hR.accSet _ hz
   obtain⟨q1,q2⟩:=hI.perm hp;have rJ:=kS k (by omega);have rT:∀q,((ids.take q).length:Int)*((k:Int)*232792560)<=64*100000000000:=fun q=>
    Int.mul_le_mul (by rw[List.length_take];omega) rJ.1 rJ.2 (by omega)
   have pV:∀q,InvY k (b+10000000000000) n ((ids.take q).foldl yJ (zU s (gl.foldl (tkA N) s.acc)))/\((ids.take q).foldl yJ (zU s (gl.foldl (tkA N) s.acc))).ps=s.ps:=fun q=>by
    have hm:=rT q;obtain⟨-,r2,-⟩:=InvY.ticks (by omega) (ids.take q) _ _ tX (by omega) (fun x hx=>q2 x (fM hx));have r4:=ZC (by omega) (ids.take q) _ _ tX (by omega) (fun x hx=>q2 x (fM hx));exact⟨r2.mono (Nat.le_refl _) (by omega),r4⟩
   have ah:=Yo (ids:=ids) (l:=r.ts.map (·.id)) (by rw[hR.ids hI];exact hp) (List.pairwise_map.2 hR.srt) oK;generalize(zU s (gl.foldl (tkA N) s.acc))=s0 at tX h0 pV⊢;have lX:=Qc (k:=k) (n:=n) (b:=b) (s:=s) hA N ⟨h1,hN⟩ (by rw[hR.acc];exact rL) (hR.few hI) (fun q=>(ids.take q).foldl yJ s0) ids ah ids.length rfl h0 (fun q hq r' p7=>by
    obtain⟨i1,i2⟩:=pV q;obtain⟨n1,n2⟩:=p7.names i1 hp (fun _=>by rw[i2]);refine⟨n1,n2,?_⟩;obtain⟨j,t,xs,a1,a2,a3,a4,a5,a6⟩:=V4 p7 i1 (by omega) (by omega) (id:=ids[q]) (by rw[i2];exact q2 _ (List.getElem_mem hq));refine⟨j,t,xs,a1,a2,a3,a4,a5,?_⟩
    (try simp only)
    rw[uL yJ s0 ids q hq];exact a6) (fun r' p7=>by
    obtain⟨i1,i2⟩:=pV ids.length;exact(p7.names i1 hp (fun _=>by rw[i2])).1) q1
   simpa using lX
theorem V5 {acc:List xS} (x:G16) (hl:acc.length=16) (gs:List (Bool×Int)) (hz:∀g:Nat,g<16->zL gs g=false->acc.getD g default=(0,0,0,0)):∀g:Nat,g<16->zL gs g=false->(xp acc x).getD g default=(0,0,0,0):=fun g hg hh=>by
 have h0:=hz g hg hh;have:=x.2;unfold xp;split
 · rw[yP _ _ _ _ (by omega)];split
   · rename_i e;rw[e,h0];simp[xu,yb,yN]
   · exact h0
 · exact h0
theorem ck (gs:List (Bool×Int)):∀(xs:List G16) (acc:List xS),acc.length=16->(∀g:Nat,g<16->zL gs g=false->acc.getD g default=(0,0,0,0))->∀g:Nat,g<16->zL gs g=false->(xs.foldl xp acc).getD g default=(0,0,0,0)
 | [],acc,_,hz=>hz
 | x::xs,acc,hl,hz=>ck gs xs (xp acc x) ((ZE acc x).trans hl) (V5 x hl gs hz)
theorem Qb (hA:RAt W rb B own r) (hR:Rel s r) (hI:InvY k b n s) (hk:k<=300) (hb:b<=900000000000000000) (z x y:Int) (s':Sy) (hT:XD s z x y s') :
 Calls Tryz.prog 36 #[.pointer (some ⟨rb,0,none⟩),I z] W fun e w'=>e=.returned (.tuple #[I x,I y])/\RQ rb own s' W w':=by
 rcases hT with⟨h1,rfl,rfl,rfl⟩ | ⟨i,rfl,hi,rfl,c',hc⟩
 · exact(Qj rb B own r z W hA (by rw[hR.len];exact h1)).mono (fun e w' ⟨he,hw⟩=>⟨he,hw ▸ RQ.of hA hR (Below.refl _ _)⟩)
 · have aN:i<n:=by rw[<- hI.len];exact hi
   have sW:=hI.line i aN;have eT:=(hR.core hi).2;have Pz:i<r.cores.length:=by rw[hR.len];exact hi
   have sC:s.cores[i]!.l.ps≠[]->0<=(yE s.cores[i]!).1:=fun ay=>by
    obtain⟨-,e2,w,hw⟩:=sW.run (by omega) (by omega) ay s.cores[i]!.tag;obtain⟨t,ht,-⟩:=(hI.on i aN _ _).1 hw;rw[(X6 e2).1];exact(hI.idle ht).1
   rcases hc with⟨rfl,hc,rfl⟩ | ⟨t,xs,ids,hc,ht,hx,hp,oK,rfl⟩
   · have he:s.cores[i]!.l.ps=[]:=by
      by_cases e:s.cores[i]!.l.ps=[]
      · exact e
      · have:=sC e;rw[hc] at this;simp at this
     obtain⟨-,-,n3,n4⟩:=X7 he;rw[hc] at n3 n4;simp only at n3 n4;refine(Vd rb B own r i _ _ W hA Pz eT he).mono ?_;rintro e w' ⟨he,B',own',eS,aG⟩;refine⟨he,B',own',_,eS,?_,aG⟩;have:=hR.coreSet i c' hi n3;rw[n3,n4] at this;exact this
   · have ay:s.cores[i]!.l.ps≠[]:=fun e=>by
      have h1:=(X7 e).1;rw[hc] at h1;have:=(hI.idle ht).1;simp only at h1;omega
     obtain⟨e1,e2,-⟩:=sW.run (by omega) (by omega) ay s.cores[i]!.tag;obtain⟨d1,-,d3,d4⟩:=X6 e2;rw[hc] at d1 d3 d4;simp only at d1 d3 d4;have hT:=hI.task x t ht;have DW:=hI.idle ht;obtain⟨jx,tx,iK,GC,BQ,hS⟩:=hR.find ht hT.id;obtain⟨ys,hy,Et⟩:=hI.gs.path t.group;obtain rfl:=hx.unique hy;obtain⟨n1,n2,n3⟩:=hI.nums (by omega) (by omega) aN;have iV:=(jk s.cores[i]!.tag s.cores[i]!.l).1;have rL:s.acc.length=16:=hI.acc.1;obtain⟨c2,Ss,oe⟩:=hI.run1 (by omega) hb aN;have mA:c2=c':=by
      rcases oe with e | ⟨_,_,e,-⟩
      · rw[hc] at e;simp at e;exact e.2.symm
      · rw[hc] at e;simp at e;exact e.2.symm
     subst mA;have tX:InvY (k+1) (b+(k+1:Nat)*232792560) n (zU (zN s i c2) (xs.foldl xp s.acc)):=Ss.accs (xO.uses xs _ hI.acc);have h0:Rel (zU (zN s i c2) (xs.foldl xp s.acc)) ⟨r.cores.set i (s.cores[i]!.tag,(z8 (yg s.cores[i]!.tag s.cores[i]!.l)).2.2),r.ts,r.gs,xs.foldl xp r.acc,r.ps⟩:=by
      have h1:=(hR.coreSet i c2 hi d3).accSet (xs.foldl xp s.acc) (ck s.gs xs s.acc rL hR.zero);rw[d3,d4] at h1;rw[hR.acc];exact h1
     obtain⟨q1,q2⟩:=hI.perm hp;have rJ:=kS (k+1) (by omega);have rT:∀q,((ids.take q).length:Int)*(((k+1:Nat):Int)*232792560)<=64*100000000000:=fun q=>
      Int.mul_le_mul (by rw[List.length_take];omega) rJ.1 rJ.2 (by omega)
     have pV:∀q,InvY (k+1) (b+10000000000000) n ((ids.take q).foldl yI (zU (zN s i c2) (xs.foldl xp s.acc)))/\((ids.take q).foldl yI (zU (zN s i c2) (xs.foldl xp s.acc))).ps=s.ps:=fun q=>by
      have hm:=rT q;obtain⟨-,r2⟩:=InvY.holds (by omega) (ids.take q) _ _ tX (by omega) (fun x hx=>q2 x (fM hx));exact⟨r2.mono (Nat.le_refl _) (by omega),gX _ _⟩
     have ah:=Yo (ids:=ids) (l:=r.ts.map (·.id)) (by rw[hR.ids hI];exact hp) (List.pairwise_map.2 hR.srt) oK;have i7:zq r.gs tx.group xs:=by rw[hR.gs,hS.group];exact hx
     generalize LT:(zU (zN s i c2) (xs.foldl xp s.acc))=s0 at tX h0 pV⊢;have FT:∀p∈s.cores[i]!.l.ps,0<=zF p.w/\zF p.w<=232792560:=fun p _=>xZ p.w;have lX:=Qi hA Pz eT ay (hI.tag hR aN) n1 (fun p hp=>by have:=n3 p hp;omega) n2 e1 e2 (fun p hp=>by
      rw[iV] at hp;have:=n3 p hp;have:=FT p hp;refine⟨?_,?_⟩ <;> rw[IntKind.wrap_i64] <;> omega) x d1.symm (by omega) jx tx BQ GC xs i7 Et (by rw[hR.acc];exact rL) (hR.few hI)
      (fun q=>(ids.take q).foldl yI s0) ids ah ids.length rfl h0 (fun q hq r' p7=>by
       obtain⟨i1,i2⟩:=pV q;obtain⟨m1,m2⟩:=p7.names i1 hp (fun _=>by rw[i2]);refine⟨m1,m2,?_⟩;obtain⟨j,t,xs,a1,a2,a3,a4,a5,a6⟩:=Wl p7 i1 (by omega) (.inr trivial) (by omega) (id:=ids[q]) (by rw[i2];exact q2 _ (List.getElem_mem hq)) (fun i hi=>⟨(i1.nums (by omega) (by omega) hi).1,i1.wrapL (by omega) (by omega) hi⟩);refine⟨j,t,xs,a1,a2,a3,a4,a5,?_⟩
       (try simp only)
       rw[uL yI s0 ids q hq];exact a6) (fun r' p7=>by
       obtain⟨i1,i2⟩:=pV ids.length;exact(p7.names i1 hp (fun _=>by rw[i2])).1) q1
     simpa using lX
end
theorem Yn (s:Sy) (up q p:Int) (d:Nat) (h:(xk s up q p d).2.1≠0):(xk s up q p d).1=0:=by
 unfold xk at h⊢;split
 · rfl
 · rename_i h1;rw[if_neg h1] at h;split
   · rfl
   · rename_i h2;rw[if_neg h2] at h;exact absurd rfl h
theorem YW (s:Sy) (w m g:Int) (h:(xh s w m g).2.1≠0):(xh s w m g).1=0:=by
 unfold xh at h⊢;split
 · rfl
 · rename_i h1;rw[if_neg h1] at h;split
   · rfl
   · rename_i h2;rw[if_neg h2] at h;split
     · rfl
     · rename_i h3;rw[if_neg h3] at h;split
       · rename_i h4;rw[if_pos h4] at h;exact absurd rfl h
       · rfl
theorem Qm {s s':Sy} {z x y:Int} (hT:XD s z x y s') (h:y≠0):x=0:=by
 rcases hT with⟨-,hx,-,-⟩ | ⟨i,-,-,hy,-⟩
 · exact hx
 · exact absurd hy h
theorem Yp {x y:Int} (h:y≠0->x=0):(if y=0 then x else 0)=x:=by
 split
 · rfl
 · rename_i hy;exact(h hy).symm
section
variable {k n:Nat} {b:Int} {s:Sy} {r:RSy} {W:World} {rb:Nat} {B:RBk} {own:Nat->Option ROwn}
theorem WC (hA:RAt W rb B own r) (hR:Rel s r) (hI:InvY k b n s) (hk:k<=300) (hb:b<=900000000000000000) (ot:(s.gs.getD 0 default).1=true) (op a a2 c z m x y:Int) (bl:Value) (s':Sy) (nN:¬(13<=op/\op<=16)) (hz:z<=9223372036854775807) (hS:gM s op a a2 c z m x y s') :
 Calls Tryz.prog 14 #[.pointer (some ⟨rb,0,none⟩),yo op a a2 c z m bl] W fun e w'=>e=.returned (.agg #[I (if y=0 then x else 0),I y])/\RQ rb own s' W w':=by
 have B5:0<=IntKind.u16.wrap a2/\IntKind.u16.wrap a2<65536:=by rw[IntKind.wrap_u16];omega
 have ah:=hA.lt;have CX:∀y:Int,(if y=0 then(0:Int) else 0)=0:=fun y=>by split <;> rfl
 rcases hS with⟨rfl,xs,hx,rfl,rfl,rfl⟩ | ⟨rfl,rfl,rfl,rfl⟩ | ⟨rfl,rfl,rfl,rfl⟩ | ⟨rfl,rfl,rfl,rfl⟩ | ⟨rfl,rfl,rfl,rfl⟩ | ⟨rfl,rfl,rfl,rfl⟩ | ⟨rfl,rfl,rfl,rfl⟩ | ⟨rfl,rfl,rfl,rfl⟩ | ⟨rfl,rfl,rfl,rfl⟩ | ⟨rfl,hT⟩ | ⟨rfl,rfl,hT⟩ | ⟨rfl,rfl,x0,ok,hT,rfl⟩ | ⟨ho,rfl,rfl,rfl⟩
 · rw[Yp (Yn s a z m xs.length)];exact Zd W rb own _ a a2 c z m bl _ _ ah (fun W' hW=>WL (hA.below hW) hR hI ot a z m xs hx)
 · rw[Yp (YW s a _ c)];exact Ze W rb own _ a a2 c z m bl _ _ ah (fun W' hW=>WN (hA.below hW) hR hI (by omega) (by omega) a _ c B5)
 · rw[CX];exact q9 W rb own _ 3 a a2 c z m bl _ (by omega) ah (fun W' hW=>WO (hA.below hW) hR hI (by omega) (by omega) a)
 · rw[CX];exact q9 W rb own _ 4 a a2 c z m bl _ (by omega) ah (fun W' hW=>WM (hA.below hW) hR hI (by omega) (by omega) a)
 · rw[CX];exact q9 W rb own _ 5 a a2 c z m bl _ (by omega) ah (fun W' hW=>Qd (hA.below hW) hR hI (by omega) (by omega) a)
 · rw[CX];exact q9 W rb own _ 6 a a2 c z m bl _ (by omega) ah (fun W' hW=>Kw (hA.below hW) hR hI (by omega) (by omega) a)
 · rw[CX];exact Zf W rb own _ a a2 c z m bl _ ah (fun W' hW=>WQ (hA.below hW) hR hI (by omega) (by omega) a a2)
 · rw[CX];exact Yy W rb own _ a a2 c z m bl _ ah (fun W' hW=>UZ (hA.below hW) hR hI (by omega) (by omega) a _ B5)
 · rw[CX];exact Y1 W rb own _ a a2 c z m bl _ ah (fun W' hW=>Zs (hA.below hW) hR hI (by omega) (by omega) a a2)
 · rw[Yp (Qm hT)];exact WD W rb own _ a a2 c z m bl _ _ ah (fun W' hW=>Qb (hA.below hW) hR hI hk hb a x y s' hT)
 · rw[CX];exact Y2 W rb own _ a a2 c z m bl _ ah (fun W' hW=>WP (hA.below hW) hR hI hk hb z y s' hz hT)
 · rw[if_pos rfl];exact Y0 W rb own _ a a2 c z m bl x0 ok ah (fun W' hW=>Qa (hA.below hW) hR hI (by omega) (by omega) x0 ok s' hT)
 · rw[CX];exact Yz W rb own _ op a a2 c z m bl (by omega) B r hA hR
end
end Go.Proofs.YtoiajjobecinpaaGreat
