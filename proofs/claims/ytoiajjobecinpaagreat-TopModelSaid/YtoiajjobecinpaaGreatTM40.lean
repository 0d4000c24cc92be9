/- The document's acts beside the program's: start, wake. The program's world and the document's system -/
import Derived.Test.YtoiajjobecinpaaGreatTM35
import Derived.Test.YtoiajjobecinpaaGreatTM36
set_option maxHeartbeats 4000000
set_option maxRecDepth 100000
namespace Go.Proofs.YtoiajjobecinpaaGreat
open Go.RowKit Go.Shelf Go.Lib Go.Proofs
set_option linter.unusedVariables false
set_option linter.unusedSimpArgs false
theorem fE (s:Sy) (id:Int) (a b:Tk) (i:Nat) (c:Co):setTk (zN (setTk s id a) i c) id b=setTk (zN s i c) id b:=by
 unfold setTk zN;congr 1
 funext x
 by_cases e:x=id
 · rw[if_pos e,if_pos e]
 · simp only[if_neg e]
section
variable {k n:Nat} {b:Int} {s:Sy} {r:RSy} {W:World} {rb:Nat} {B:RBk} {own:Nat->Option ROwn}
theorem jN (hR:Rel s r) (hI:InvY k b n s) (hk:k<=400) (hb:b<=1000000000000000000) {id:Int} {u t:Tk} {i j:Nat} {act:Int} (hu:s.tasks id=some u) (hj:r.ts[j]? = some t) (hS:SamT u t) (hs:u.state=1\/u.state=4) (aN:i<n) (AY:zW u.mask (i:Int)=true) (ha:nxt u.state act=(2,0)) :
 ∃(st:Int) (cs':List (Int×Ln)),(∀(W':World) (B:RBk) (own:Nat->Option ROwn),RAt W' rb B own r->Calls Tryz.prog 72 #[.pointer (some ⟨rb,0,none⟩),tkV (coT t i),.bool false] W' fun e w'=>e=.returned (.tuple #[tkV (stT (coT t i) st),I 0])/\∃B' own',RAt w' rb B' own' ⟨cs',r.ts,r.gs,r.acc,r.ps⟩/\RStep own own' W' w') /\
  Rel (zX (setTk s id (coT u i)) id (coT u i) (vX s u) i act false).2 ⟨cs',r.ts.set j (stT (coT t i) st),r.gs,r.acc,r.ps⟩/\(zX (setTk s id (coT u i)) id (coT u i) (vX s u) i act false).1=0:=by
 have hT:=hI.task id u hu;obtain⟨xs,hx,Es⟩:=hI.gs.path u.group;have F3:zq r.gs (coT t i).group xs:=by rw[hR.gs];show zq s.gs t.group xs;rw[hS.group];exact hx
 rw[vi hx];have iZ:t.lag=u.lag:=hS.lag (by rcases hs with h | h <;> rw[h] <;> decide);have iI:i<s.cores.length:=by rw[hI.len];exact aN
 obtain⟨a,-⟩:=(hI.coT_ hu hs aN).enter (act:=act) (i:=i) (t:=coT u i) hk (wW _ _ _) (xs.any (zO s)) false rfl aN AY ha (by show u.state≠2;rcases hs with h | h <;> rw[h] <;> decide);cases hh:xs.any (zO s) with
 | true=>
  refine⟨5,r.cores,fun W' B own h=>?_,?_,?_⟩
  · refine(Zu rb B own r (coT t i) false xs W' h F3 (by omega) (by rw[hR.spent];exact hh)).mono ?_;rintro e w' ⟨he,hB⟩;exact⟨he,B,own,h.below hB,RStep.below hB⟩
  · unfold zX;rw[if_pos rfl,show(coT u i).state=u.state from rfl,ha];show Rel (setTk (setTk s id (coT u i)) id (stT (coT u i) (nxt 2 6).1)) _;rw[vk,show(nxt 2 6).1=5 by simp[nxt]];exact hR.task hu hj hS hT.id ⟨hS.id,hS.w,hS.group,rfl,rfl,hS.mask,fun _=>iZ⟩ hT.id
  · unfold zX;rw[if_pos rfl]
 | false=>
  rw[hh] at a;have r9:(zg s.cores[i]! u.id u.w u.lag false).1=0:=by
   unfold zX at a;rw[if_neg (by simp)] at a;by_cases e:(zg s.cores[i]! u.id u.w u.lag false).1=0
   · exact e
   · have a':(zg (setTk s id (coT u i)).cores[i]! (coT u i).id (coT u i).w (coT u i).lag false).1=0:=by
      by_cases e2:(zg (setTk s id (coT u i)).cores[i]! (coT u i).id (coT u i).w (coT u i).lag false).1=0
      · exact e2
      · rw[if_neg e2] at a;exact absurd a e2
     exact a'
  have S8:=(vu r9).1;obtain⟨n1,n2,n3⟩:=hI.nums hk hb aN;have eT:=(hR.core iI).2;refine⟨2,r.cores.set i (s.cores[i]!.tag,xR s.cores[i]!.l t.id t.w (if false=true then t.lag else yy s.cores[i]!.tag t.lag)),fun W' B own h=>?_,?_,?_⟩
  · refine Zt rb B own r (coT t i) false xs i W' h F3 (by omega) (by rw[hR.spent];exact hh) rfl (by rw[hR.len];exact iI) s.cores[i]!.tag s.cores[i]!.l eT (hI.tag hR aN) n1 (by omega) ?_;show zP s.cores[i]!.l t.id t.w t.lag=0;rw[hS.id,hS.w,iZ];exact S8
  · unfold zX;rw[if_neg (by simp),if_pos (by exact r9),show(coT u i).state=u.state from rfl,ha];show Rel (setTk (zN (setTk s id (coT u i)) i (zg s.cores[i]! u.id u.w u.lag false).2) id (stT (coT u i) 2)) _;rw[fE];exact hR.enter hu hT.id hj hS iI (u':=stT (coT u i) 2) (t':=stT (coT t i) 2) (ex:=false) hT.id iZ.symm r9 ⟨hS.id,hS.w,hS.group,rfl,rfl,hS.mask,fun _=>iZ⟩
  · unfold zX;rw[if_neg (by simp),if_pos (by exact r9)]
theorem WO (hA:RAt W rb B own r) (hR:Rel s r) (hI:InvY k b n s) (hk:k<=400) (hb:b<=1000000000000000000) (id:Int) :
 Calls Tryz.prog 32 #[.pointer (some ⟨rb,0,none⟩),I 3,I id] W fun e w'=>e=.returned (I (wk s id).1)/\RQ rb own (wk s id).2 W w':=by
 have aT:=hR.few hI;unfold wk;cases hu:s.tasks id with
 | none=>exact(qD rb B own r 3 id W hA (by omega) (hR.gone hu)).mono (fun e w' ⟨he,hw⟩=>⟨he,hw ▸ RQ.of hA hR (Below.refl _ _)⟩)
 | some u=>
  have hT:=hI.task id u hu;obtain⟨j,t,iK,hj,hp,hS⟩:=hR.find hu hT.id;simp only
  by_cases he:(nxt u.state 1).2=0
  · rw[if_pos he];have hs:=(xM u.state).2.2.1 he;obtain⟨i,hi,aN,AY⟩:=ws hI hT.mask;rw[hi,Int.toNat_natCast];obtain⟨st,cs',aj,hrel,h0⟩:=jN (rb:=rb) hR hI hk hb (act:=1) hu hj hS (.inl hs) aN AY (by rw[hs];rfl);obtain⟨AE,pG⟩:=hI.loadsOk hk hb hR;refine(YB rb B own r id j t i st cs' W hA aT hp hj (by rw[hS.state];exact hs) (by rw[hS.mask];exact hT.mask.1) (by rw[hR.loads,hS.mask];exact hi) AE pG (fun W' h=>aj W' B own h)).mono ?_;rintro e w' ⟨he,B',own',eS,ak⟩;exact⟨by rw[he,h0],B',own',_,eS,hrel,ak⟩
  · rw[if_neg he];refine(fz rb B own r 3 id j t W hA (by omega) hp hj (.inl rfl) (by rw[hS.state];exact hT.st) (by rw[hS.state];exact he)).mono ?_;rintro e w' ⟨he,hB⟩;exact⟨by rw[he,hS.state];rfl,RQ.of hA hR hB⟩
theorem Qd (hA:RAt W rb B own r) (hR:Rel s r) (hI:InvY k b n s) (hk:k<=400) (hb:b<=1000000000000000000) (id:Int) :
 Calls Tryz.prog 32 #[.pointer (some ⟨rb,0,none⟩),I 5,I id] W fun e w'=>e=.returned (I (qS s id).1)/\RQ rb own (qS s id).2 W w':=by
 have aT:=hR.few hI;unfold qS;cases hu:s.tasks id with
 | none=>exact(qD rb B own r 5 id W hA (by omega) (hR.gone hu)).mono (fun e w' ⟨he,hw⟩=>⟨he,hw ▸ RQ.of hA hR (Below.refl _ _)⟩)
 | some u=>
  have hT:=hI.task id u hu;obtain⟨j,t,iK,hj,hp,hS⟩:=hR.find hu hT.id;simp only
  by_cases he:(nxt u.state 5).2=0
  · rw[if_pos he];have hs:=(xM u.state).2.2.2.1 he;obtain⟨c0,lW,Fi⟩:=hT.core (by rw[hs];decide);have h8:=hI.n8;by_cases hh:zW u.mask u.core=true
    · have Om:qR s u=(c0:Int):=by unfold qR;rw[if_pos hh,lW]
      rw[Om,Int.toNat_natCast];obtain⟨st,cs',aj,hrel,h0⟩:=jN (rb:=rb) hR hI hk hb (act:=5) hu hj hS (.inr hs) Fi (by rw[<- lW];exact hh) (by rw[hs];rfl);have LJ:coT t (c0:Int)=t:=by
       have:=hS.core;rw[lW] at this;unfold coT;rw[<- this]
      rw[LJ] at aj hrel;refine(f7 rb B own r id j t st cs' W hA aT hp hj (by rw[hS.state];exact hs) c0 (by rw[hS.core];exact lW) (by omega) (by rw[hS.mask];exact hT.mask.1) (by rw[hS.mask,hS.core];exact hh) (fun W' h=>aj W' B own h)).mono ?_;rintro e w' ⟨he,B',own',eS,ak⟩;exact⟨by rw[he,h0],B',own',_,eS,hrel,ak⟩
    · obtain⟨i,hi,aN,AY⟩:=ws hI hT.mask;have Om:qR s u=(i:Int):=by unfold qR;rw[if_neg hh,hi]
      rw[Om,Int.toNat_natCast];obtain⟨st,cs',aj,hrel,h0⟩:=jN (rb:=rb) hR hI hk hb (act:=5) hu hj hS (.inr hs) aN AY (by rw[hs];rfl);obtain⟨AE,pG⟩:=hI.loadsOk hk hb hR;refine(WJ rb B own r id j t i st cs' W hA aT hp hj (by rw[hS.state];exact hs) c0 (by rw[hS.core];exact lW) (by omega) (by rw[hS.mask];exact hT.mask.1) (by rw[hS.mask,hS.core];simpa using hh) (by rw[hR.loads,hS.mask];exact hi) AE pG (fun W' h=>aj W' B own h)).mono ?_;rintro e w' ⟨he,B',own',eS,ak⟩;exact⟨by rw[he,h0],B',own',_,eS,hrel,ak⟩
  · rw[if_neg he];refine(fz rb B own r 5 id j t W hA (by omega) hp hj (.inr (.inr (.inl rfl))) (by rw[hS.state];exact hT.st) (by rw[hS.state];exact he)).mono ?_;rintro e w' ⟨he,hB⟩;exact⟨by rw[he,hS.state];rfl,RQ.of hA hR hB⟩
end
def wG (W:World) (ob rb n k:Nat) (s s0:Sy) (wr:World):Prop:=
 ∃(wb sb m:Nat) (cbs:List Nat) (L:Int->Option Tr) (own:Nat->Option Own) (ow:Nat->Option OwnW) (B:RBk) (ro:Nat->Option ROwn) (r:RSy),
  WInv k wr ob wb sb s m cbs L own ow n/\RAt wr rb B ro r/\Rel s0 r/\Below W.heap.size W wr/\((∀j,(j=ob\/own j≠none\/ow j≠none)->ro j=none)/\∀j,(own j≠none\/ow j≠none)->W.heap.size<=j)/\(∀j,ro j≠none->W.heap.size<=j)/\(s.gs.getD 0 default).1=true
theorem Qf {s s':Sy} {op a y:Int} (h:(s.gs.getD 0 default).1=true) (hg:GsR s op a y s') (hl:s.gs.length=16):(s'.gs.getD 0 default).1=true:=by
 by_cases e:op=1/\y=0
 · obtain⟨j,hj,hf,hs⟩:=hg.1 e;rw[hs,List.getD_eq_getElem?_getD,List.getElem?_set];by_cases e0:j=0
   · subst e0;rw[if_pos rfl,if_pos (by omega)];rfl
   · rw[if_neg e0,<- List.getD_eq_getElem?_getD];exact h
 · rw[hg.2 e];exact h
section
variable {W wr:World} {ob rb n k:Nat} {s s0:Sy}
theorem wG.bel (h:wG W ob rb n k s s0 wr):Below W.heap.size W wr:=by
 obtain⟨wb,sb,m,cbs,L,own,ow,B,ro,r,h1,h2,h3,h4,h5,h6,h7⟩:=h;exact h4
theorem wG.inv (h:wG W ob rb n k s s0 wr):InvY k (1000000+k*10000000000000) n s:=by
 obtain⟨wb,sb,m,cbs,L,own,ow,B,ro,r,h1,h2,h3,h4,h5,h6,h7⟩:=h;exact h1.inv
theorem wG.root (h:wG W ob rb n k s s0 wr):(s.gs.getD 0 default).1=true:=by
 obtain⟨wb,sb,m,cbs,L,own,ow,B,ro,r,h1,h2,h3,h4,h5,h6,h7⟩:=h;exact h7
theorem wG.law (h:wG W ob rb n k s s0 wr):kI W ob n k s wr:=by
 obtain⟨wb,sb,m,cbs,L,own,ow,B,ro,r,h1,h2,h3,h4,h5,h6,h7⟩:=h;exact⟨wb,sb,m,cbs,L,own,ow,h1,h4,h5.2⟩
theorem wG.below {w':World} (h:wG W ob rb n k s s0 wr) (hb:Below wr.heap.size wr w'):wG W ob rb n k s s0 w':=by
 obtain⟨wb,sb,m,cbs,L,own,ow,B,ro,r,⟨nA,i1,i2,i3⟩,h2,h3,h4,h5,h6,h7⟩:=h;have pj:ob<wr.heap.size:=(Array.getElem?_eq_some_iff.1 nA.1).1;have ah:=nA.2.1.lt;exact⟨wb,sb,m,cbs,L,own,ow,B,ro,r,⟨nA.same hb.size (fun j hj=>hb.block j (by
  rcases hj with rfl | hj
  · exact pj
  · exact ah j hj)),i1,i2,i3⟩,h2.below hb,h3,h4.trans (hb.mono h4.size),h5,h6,h7⟩
theorem kI.doS (h:kI W ob n k s wr) (hk:k<=200) (op a b c z m:Int) (bl:Value) (nN:¬(13<=op/\op<=16)) (h1:-9223372036854775808<=a) (h2:a<=9223372036854775807) (hn:z<=9223372036854775807) :
 Calls Tryz.prog 13 #[.pointer (some ⟨ob,0,none⟩),yo op a b c z m bl] wr fun e w'=>∃(x y:Int) (s':Sy),e=.returned (.agg #[I (if y=0 then x else 0),I y])/\gM s op a b c z m x y s'/\kI W ob n (k+1) s' w':=by
 obtain⟨wb,sb,mm,cbs,L,own,ow,hI,hB,hd⟩:=h;refine(Ui k wr ob wb sb s mm cbs L own ow n op a b c z m bl hI hk nN h1 h2 hn).mono ?_;rintro e w' ⟨x,y,s',m',L',own',ow',he,t7,⟨hr,hg⟩,eP,aZ⟩;refine⟨x,y,s',he,hr,wb,sb,m',cbs,L',own',ow',t7,hB.trans (eP.below hB.size hd),fun j hj=>?_⟩;rcases aZ j hj with h | h
 · exact hd j h
 · exact Nat.le_trans hB.size h
theorem wG.goes (h:wG W ob rb n k s s0 wr) (hk:k<=200) (op a b c z m:Int) (bl:Value) (nN:¬(13<=op/\op<=16)) (h1:-9223372036854775808<=a) (h2:a<=9223372036854775807) (hn:z<=9223372036854775807) :
 Calls Tryz.prog 13 #[.pointer (some ⟨ob,0,none⟩),yo op a b c z m bl] wr fun e w'=>∃(x y:Int) (s':Sy),e=.returned (.agg #[I (if y=0 then x else 0),I y])/\gM s op a b c z m x y s'/\wG W ob rb n (k+1) s' s0 w':=by
 obtain⟨wb,sb,mm,cbs,L,own,ow,B,ro,r,hI,hR,nT,hB,hd,sF,ot⟩:=h;have eL:=hI.inv.gs.len;refine(Ui k wr ob wb sb s mm cbs L own ow n op a b c z m bl hI hk nN h1 h2 hn).mono ?_;rintro e w' ⟨x,y,s',m',L',own',ow',he,t7,⟨hr,hg⟩,eP,aZ⟩;have Ng:∀j,ro j≠none->¬(own j≠none\/ow j≠none):=fun j hj hh=>hj (hd.1 j (.inr hh));refine⟨x,y,s',he,hr,wb,sb,m',cbs,L',own',ow',B,ro,r,t7,hR.same eP.size (fun j hj=>eP.block j (hR.lt j hj) (Ng j hj)),nT,hB.trans (eP.below hB.size hd.2),⟨fun j hj=>?_,fun j hj=>?_⟩,sF,Qf ot hg eL⟩
 · rcases hj with rfl | hj
   · exact hd.1 j (.inl rfl)
   · rcases aZ j hj with h | h
     · exact hd.1 j (.inr h)
     · by_cases e:ro j=none
       · exact e
       · have:=hR.lt j e;omega
 · rcases aZ j hj with h | h
   · exact hd.2 j h
   · exact Nat.le_trans hB.size h
theorem wG.ref {s':Sy} {F:Nat} {args:Array Value} {E:Ending} (h:wG W ob rb n k s' s wr)
 (hc:∀B ro r,RAt wr rb B ro r->Rel s r->Calls Tryz.prog F args wr fun e w'=>e=E/\RQ rb ro s' wr w') :
 Calls Tryz.prog F args wr fun e w'=>e=E/\wG W ob rb n k s' s' w':=by
 obtain⟨wb,sb,mm,cbs,L,own,ow,B,ro,r,⟨nA,i1,i2,i3⟩,hR,nT,hB,hd,sF,ot⟩:=h;have pj:ob<wr.heap.size:=(Array.getElem?_eq_some_iff.1 nA.1).1;have ah:=nA.2.1.lt;refine(hc B ro r hR nT).mono ?_;rintro e w' ⟨he,B',ro',r',AW,Hs,aZ,eP⟩;have pG:∀j,(j=ob\/own j≠none\/ow j≠none)->j<wr.heap.size:=fun j hj=>by
  rcases hj with rfl | hj
  · exact pj
  · exact ah j hj
 refine⟨he,wb,sb,mm,cbs,L,own,ow,B',ro',r',⟨nA.same eP.size (fun j hj=>eP.block j (pG j hj) (fun e=>e (hd.1 j hj))),i1,i2,i3⟩,AW,Hs,hB.trans (eP.below hB.size (fun j hj=>sF j hj)),⟨fun j hj=>?_,hd.2⟩,fun j hj=>?_,ot⟩
 · by_cases e:ro' j=none
   · exact e
   · rcases aZ j e with h | h
     · exact absurd (hd.1 j hj) h
     · have:=pG j hj;omega
 · rcases aZ j hj with h | h
   · exact sF j h
   · exact Nat.le_trans hB.size h
end
def dq (ts:List Int) (k:Nat):Prop:=ts.getD k 0=0\/ts.getD k 0=1\/ts.getD k 0=2
theorem ZA (ts:List Int):∀d,(∀k,k<d->dq ts k)\/∃k0,k0<d/\(ts.getD k0 0≠0/\ts.getD k0 0≠1/\ts.getD k0 0≠2)/\∀k,k<k0->dq ts k
 | 0=>.inl (fun k hk=>absurd hk (Nat.not_lt_zero k))
 | d+1=>by
  rcases ZA ts d with ih | ⟨k0,h1,h2,h3⟩
  · by_cases e:dq ts d
    · left
      intro k hk;by_cases e2:k<d
      · exact ih k e2
      · obtain rfl:k=d:=by omega
        exact e
    · refine .inr ⟨d,Nat.lt_succ_self d,?_,ih⟩;unfold dq at e;omega
  · exact .inr ⟨k0,by omega,h2,h3⟩
def ZM (tn:Nat) (zs:List Int):Prop:=1<=tn/\∀k,k<tn->dq (xW zs tn) k
theorem X0 (W:World) (tp:Option Addr) (tn tc:Nat) (zs:List Int) (h:qV W tp tn zs) (h8:tn<=8) (hb:¬ZM tn zs) :
 (Calls Tryz.prog 11 #[.slice tp tn tc] W fun e w'=>e=.returned (.tuple #[.pointer none,I 1])/\Below W.heap.size W w') /\
  Calls Tryz.prog 12 #[.slice tp tn tc] W fun e w'=>e=.returned (.tuple #[.pointer none,I 1])/\Below W.heap.size W w':=by
 by_cases h0:tn=0
 · subst h0;exact⟨ZF W tp 0 tc ((Xm W tp 0 tc (by omega)).mono (fun e w' ⟨he,hw⟩=>⟨he,hw ▸ Below.refl _ _⟩)),(WW W tp 0 tc (by omega)).mono (fun e w' ⟨he,hw⟩=>⟨he,hw ▸ Below.refl _ _⟩)⟩
 · obtain⟨b,off,rfl,i9,ap⟩:∃b off,tp=some ⟨b,off,none⟩/\b<W.heap.size/\∀j,j<tn->W.cell? ⟨b,off+j,none⟩=some (I (zs.getD j 0)):=by
    rcases h with h | h
    · exact absurd h h0
    · exact h
   have oV:∀j,j<tn->W.cell? ⟨b,off+j,none⟩=some (I ((xW zs tn).getD j 0)):=fun j hj=>by rw[dG _ _ _ hj];exact ap j hj
   rcases ZA (xW zs tn) tn with h | ⟨k0,aX,sw,BA⟩
   · exact absurd ⟨by omega,h⟩ hb
   · exact⟨ZF W _ tn tc (VC W b off tn tc (xW zs tn) (wt _ _).symm (by omega) (by omega) oV i9 k0 aX sw BA),Qe W b off tn tc (xW zs tn) (wt _ _).symm (by omega) (by omega) oV i9 k0 aX sw BA⟩
theorem bY (W:World) (tp:Option Addr) (tn tc:Nat) (zs:List Int) (h:qV W tp tn zs) (h8:tn<=8) (hg:ZM tn zs) :
 (Calls Tryz.prog 11 #[.slice tp tn tc] W fun e w'=>∃ob,e=.returned (.tuple #[.pointer (some ⟨ob,0,none⟩),I 0])/\kI W ob tn 0 (xX (xW zs tn)) w'/\1<=tn) /\
  Calls Tryz.prog 12 #[.slice tp tn tc] W (KN W (xW zs tn)):=by
 obtain⟨h1,h2⟩:=hg;obtain⟨b,off,rfl,i9,ap⟩:∃b off,tp=some ⟨b,off,none⟩/\b<W.heap.size/\∀j,j<tn->W.cell? ⟨b,off+j,none⟩=some (I (zs.getD j 0)):=by
  rcases h with h | h
  · omega
  · exact h
 have oV:∀j,j<tn->W.cell? ⟨b,off+j,none⟩=some (I ((xW zs tn).getD j 0)):=fun j hj=>by rw[dG _ _ _ hj];exact ap j hj
 exact⟨bI W b off tn tc zs h1 h8 i9 oV h2,Ky W b off tn tc (xW zs tn) (wt _ _).symm h1 (by omega) oV i9 h2⟩
theorem VY {W w1 w2:World} {ob rb tn:Nat} {ts:List Int} (h:kI W ob tn 0 (xX ts) w1) (hr:jY w1 w2 rb ts ts.length) (hg:∀k,k<ts.length->dq ts k):wG W ob rb tn 0 (xX ts) (xX ts) w2:=by
 obtain⟨wb,sb,m,cbs,L,own,ow,⟨nA,i1,i2,i3⟩,hB,hd⟩:=h;obtain⟨B,ro,hR,ib,sF⟩:=hr;rw[List.take_of_length_le (Nat.le_refl _)] at hR;have pj:ob<w1.heap.size:=(Array.getElem?_eq_some_iff.1 nA.1).1;have ah:=nA.2.1.lt;have pG:∀j,(j=ob\/own j≠none\/ow j≠none)->j<w1.heap.size:=fun j hj=>by
  rcases hj with rfl | hj
  · exact pj
  · exact ah j hj
 refine⟨wb,sb,m,cbs,L,own,ow,B,ro,_,⟨nA.same ib.size (fun j hj=>ib.block j (pG j hj)),i1,i2,i3⟩,hR,Kx ts hg,hB.trans (ib.mono hB.size),⟨fun j hj=>?_,hd⟩,fun j hj=>Nat.le_trans hB.size (sF j hj),rfl⟩;by_cases e:ro j=none
 · exact e
 · have:=sF j e;have:=pG j hj;omega
section
attribute [local go_sem] Oper.semAt_some
theorem ZQ (W:World):Calls Tryz.prog 9 #[] W fun e w'=>e=.returned (.bool true)/\Below W.heap.size W w':=by
 have aZ:=bI (W.alloc (.cells #[I 0] 3)) W.heap.size 0 1 1 [0] (by omega) (by omega) (by simp) (fun j hj=>by
  obtain rfl:j=0:=by omega
  exact(zv W (I 0) 3).1) (fun k hk=>by
  obtain rfl:k=0:=by omega
  exact .inl rfl)
 have en:Below W.heap.size W (W.alloc (.cells #[I 0] 3)):=(Below.refl _ W).alloc (Nat.le_refl _) _;have lF:=lH en;obtain⟨W0,CO⟩:∃x,W.alloc (.cells #[I 0] 3)=x:=⟨_,rfl⟩
 clear en;rw[CO] at aZ lF;go_enter Tryz.func9,Tryz.ntmps9;go_wp2_with fail
 refine aZ.mono ?_;rintro e w1 ⟨ob,rfl,lu,OS⟩
 · have il:=lu.doS (by omega) 2 1 1 0 0 0 (.slice none 0 0) (by omega) (by omega) (by omega) (by omega);unfold yo at il;clear lu aZ;go_wp2_with fail
   refine il.mono ?_;rintro e w2 ⟨x,y,s1,rfl,ha,DL⟩;generalize(if y=0 then x else 0)=v2;obtain⟨-,-,e1⟩:=ha.at2;rw[show xX (xW [0] 1)=xX [0] from rfl,VU] at e1;subst e1;have aG:=DL.doS (by omega) 3 0 0 0 0 0 (.slice none 0 0) (by omega) (by omega) (by omega) (by omega);unfold yo at aG;clear DL il ha;go_wp2_with fail
   refine aG.mono ?_;rintro e w3 ⟨x3,y3,s2,rfl,ha,Pg⟩;generalize(if y3=0 then x3 else 0)=v3;obtain⟨-,-,e2⟩:=ha.at3;obtain⟨c2,p2⟩:=VV;rw[<- e2] at c2 p2;have lJ:=Pg.doS (by omega) 10 0 0 0 0 0 (.slice none 0 0) (by omega) (by omega) (by omega) (by omega);unfold yo at lJ;have nv:=lH (And.intro c2 p2);clear Pg aG ha e2 c2 p2;go_wp2_with fail
   refine lJ.mono ?_;rintro e w4 ⟨x4,y4,s3,rfl,ha,M5⟩;obtain⟨rfl,rfl,p3⟩:=KT nv.out.1 nv.out.2 ha.at10;have tN:=dE W0 w4 ob 1 _ s3 M5 (by omega);have AQ:=lH (lF.out.trans (M5.bel.mono lF.out.size));rw[p3,KS] at tN;clear M5 lJ ha p3;go_wp2_with fail
   refine tN.mono ?_;rintro e w5 ⟨a0,a1,a2,a3,a4,c0,c1,c2,c3,c4,fl,P,rfl,-,-,-,mY⟩;have pu:=lH (AQ.out.trans (mY.mono AQ.out.size));obtain⟨G,hG⟩:∃G,(xD s3 16).length=G:=⟨_,rfl⟩
   rw[hG];have Fq:=Ja a0 a1 a2 a3 a4 1 1 1 G G c0 c1 c2 c3 c4 w5;clear tN mY;go_wp2_with fail
   go_ret
   exact⟨rfl,pu.out⟩
end
end Go.Proofs.YtoiajjobecinpaaGreat
