/- What each method of a system makes of it: Spawn, Group, Run, Tick, Even. The acts of tries, whatever -/
import Derived.Test.YtoiajjobecinpaaGreatTM25
import Derived.Test.YtoiajjobecinpaaGreatTM26
set_option maxHeartbeats 4000000
set_option maxRecDepth 100000
namespace Go.Proofs.YtoiajjobecinpaaGreat
open Go.RowKit Go.Shelf Go.Lib Go.Proofs
set_option linter.unusedVariables false
set_option linter.unusedSimpArgs false
theorem vh {gs:List (Bool×Int)} {j:Nat} (hl:gs.length=16) (hj:j<16) (up g:Int):zL (gs.set j (true,up)) g=(decide (g=(j:Int))||zL gs g):=by
 unfold zL;rw[dC _ _ _ _ (by rw[hl];exact hj)];by_cases e:g=(j:Int)
 · subst e;simp
   omega
 · by_cases h0:0<=g
   · rw[if_neg (by omega)];simp[e]
   · simp[h0,e]
theorem cZ {gs:List (Bool×Int)} {j:Nat} (hl:gs.length=16) (hj:j<16) (up g:Int) (h0:0<=g):upG (gs.set j (true,up)) g=if g=(j:Int) then up else upG gs g:=by
 unfold upG;rw[dC _ _ _ _ (by rw[hl];exact hj)];by_cases e:g=(j:Int)
 · subst e;simp
 · rw[if_neg (by omega),if_neg e]
theorem Xs {gs:List (Bool×Int)} {g:Int} (h:zL gs g=true):0<=g/\g<16:=by
 unfold zL at h;simp only[Bool.and_eq_true,decide_eq_true_eq] at h;exact⟨h.1,h.2.1⟩
theorem fq {gs:List (Bool×Int)} {j:Nat} {up:Int} (hl:gs.length=16) (hj:j<16) (hf:zL gs j=false) (JU:∀g:Int,zL gs g=true->upG gs g=-1\/zL gs (upG gs g)=true) :
 ∀(xs:List G16) (g:Int),zq gs g xs->g≠(j:Int)->zq (gs.set j (true,up)) g xs
 | [],g,h,ay=>by
  show zL _ g=false;rw[vh hl hj];replace h:zL gs g=false:=h;simp[ay,h]
 | x::xs,g,⟨h1,h2,h3⟩,ay=>by
  refine⟨h1,by rw[vh hl hj,h2];simp,?_⟩;rw[cZ hl hj up g (Xs h2).1,if_neg ay];refine fq hl hj hf JU xs _ h3 ?_;rcases JU g h2 with e | e
  · rw[e];omega
  · intro e2;rw[e2,hf] at e;cases e
theorem Wb {gs:List (Bool×Int)} {up:Int} (h:(vW gs up).2.1=0):∃j,j<gs.length/\(gs.getD j default).1=false/\vW gs up=((j:Int),0,gs.set j (true,up)):=by
 unfold vW at h⊢;cases hf:gs.findIdx? (fun p=>!p.1) with
 | some i=>
  obtain⟨hi,hp,-⟩:=List.findIdx?_eq_some_iff_getElem.1 hf;refine⟨i,hi,?_,rfl⟩;rw[List.getD_eq_getElem?_getD,List.getElem?_eq_getElem hi];simpa using hp
 | none=>rw[hf] at h;simp at h
theorem GsOk.add {gs:List (Bool×Int)} (h:GsOk gs) {up:Int} {xs:List G16} (hx:zq gs up xs) (h0:(yp gs up xs.length).2.1=0) :
 ∃j:Nat,j<16/\zL gs j=false/\(yp gs up xs.length).1=(j:Int)/\(yp gs up xs.length).2.2=gs.set j (true,up)/\GsOk (gs.set j (true,up)):=by
 unfold yp at h0⊢;by_cases hu:zL gs up=true
 · rw[if_pos hu] at h0⊢;by_cases h4:4<=xs.length
   · rw[if_pos h4] at h0;simp at h0
   · rw[if_neg h4] at h0⊢;obtain⟨j,hj,hf,e⟩:=Wb h0;rw[h.len] at hj;have Fp:zL gs (j:Int)=false:=by
      unfold zL;rw[Int.toNat_natCast,hf];simp
     rw[e];refine⟨j,hj,Fp,rfl,rfl,by rw[List.length_set];exact h.len,fun g=>?_,fun g hg=>?_⟩
     · by_cases e:g=(j:Int)
       · subst e;refine⟨⟨(j:Int),by omega,by omega⟩::xs,⟨rfl,by rw[vh h.len hj];simp,?_⟩,by simp;omega⟩;rw[cZ h.len hj up _ (by omega),if_pos rfl];exact fq h.len hj Fp h.ups xs up hx (fun e=>by rw[e,Fp] at hu;cases hu)
       · obtain⟨ys,hy,Et⟩:=h.path g;exact⟨ys,fq h.len hj Fp h.ups ys g hy e,Et⟩
     · have SN:=Xs hg;rw[cZ h.len hj up g SN.1];rw[vh h.len hj] at hg;by_cases e:g=(j:Int)
       · rw[if_pos e];right
         rw[vh h.len hj,hu];simp
       · rw[if_neg e];have ic:zL gs g=true:=by simpa [e] using hg
         rcases h.ups g ic with e | e
         · exact .inl e
         · right;rw[vh h.len hj,e];simp
 · rw[if_neg hu] at h0;simp at h0
theorem InvY.group {k:Nat} {b:Int} {n:Nat} {s:Sy} (h:InvY k b n s) {up q p:Int} {xs:List G16} (hx:zq s.gs up xs) :
 InvY k b n (xk s up q p xs.length).2.2/\((xk s up q p xs.length).2.1≠0->(xk s up q p xs.length).2.2=s)/\((xk s up q p xs.length).2.1=0->∃j:Nat,j<16/\zL s.gs j=false/\(xk s up q p xs.length).2.2.gs=s.gs.set j (true,up)):=by
 unfold xk;by_cases h1:(wF q p).2≠0
 · rw[if_pos h1];exact⟨h,fun _=>rfl,fun e=>absurd e h1⟩
 · rw[if_neg h1];by_cases h2:(yp s.gs up xs.length).2.1≠0
   · rw[if_pos h2];exact⟨h,fun _=>rfl,fun e=>absurd e h2⟩
   · rw[if_neg h2];obtain⟨j,hj,hf,e1,e2,hG⟩:=h.gs.add hx (by simpa using h2);rw[e1,e2];refine⟨⟨h.n8,h.len,h.line,h.srv,hG,⟨by show(s.acc.set _ _).length=16;rw[List.length_set];exact h.acc.1,fun i hi=>?_⟩,h.pslen,h.psat,h.names,fun x t ht=>?_,h.on,h.cnt⟩,fun e=>absurd rfl e,fun _=>⟨j,hj,hf,rfl⟩⟩
     · show yN ((s.acc.set _ _).getD i default).1 _ _ _\/_;simp only[zU,setG];rw[Int.toNat_natCast,yP _ _ _ _ (by rw[h.acc.1];exact hj)];split
       · have hb:xV q p q 0=true:=by
          by_cases e:xV q p q 0=true
          · exact e
          · exfalso;apply h1;unfold wF;rw[if_neg e];decide
         unfold wF;rw[if_pos hb];unfold xV at hb;exact of_decide_eq_true hb
       · exact h.acc.2 i hi
     · have hT:=h.task x t ht;exact⟨hT.id,hT.w,hT.mask,hT.st,hT.core,hT.has,hT.lag,by show zL (s.gs.set j (true,up)) t.group=true;rw[vh h.gs.len hj,hT.grp];simp⟩
def xh (s:Sy) (w m g:Int):Int×Int×Sy:=
 if zQ w=false then(0,1,s) else if ye m s.cores.length=false then(0,5,s) else if zL s.gs g=false then(0,2,s)
 else if (ym s.ps).2.1=0 then((ym s.ps).1,0,⟨s.cores,s.gs,s.acc,(ym s.ps).2.2,fun x=>if x=(ym s.ps).1 then some (ya (ym s.ps).1 w m g) else s.tasks x,s.cnt+1⟩) else(0,3,s)
def XD (s:Sy) (z x y:Int) (s':Sy):Prop:=
 ((z<0\/(s.cores.length:Int)<=z)/\x=0/\y=2/\s'=s) \/
 (∃i:Nat,z=(i:Int)/\i<s.cores.length/\y=0/\∃c',(x=-1/\yE s.cores[i]! = (-1,0,c')/\s'=zN s i c') \/
   (∃(t:Tk) (xs:List G16) (ids:List Int),yE s.cores[i]! = (x,0,c')/\s.tasks x=some t/\zq s.gs t.group xs/\ids.Perm (zf s.ps)/\ids.Pairwise (fun a b=>¬b<a)/\s'=ids.foldl yI (zU (zN s i c') (xs.foldl xp s.acc))))
def Xo (s:Sy) (N y:Int) (s':Sy):Prop:=
 (N<0/\y=1/\s'=s)\/(0<=N/\y=0/\∃ids:List Int,ids.Perm (zf s.ps)/\ids.Pairwise (fun a b=>¬b<a)/\s'=ids.foldl yJ (zU s ((yU s.gs 16).foldl (tkA N) s.acc)))
def VE (s:Sy) (x:Int) (ok:Bool) (s':Sy):Prop:=
 ∃ids:List Int,ids.Perm (zf s.ps)/\ids.Pairwise (fun a b=>¬b<a)/\((ok=false/\(yF (zj s) (evL s ids)).2.2=false/\s'=s) \/
  (ok=true/\(yF (zj s) (evL s ids)).2.2=true/\x=(yF (zj s) (evL s ids)).1/\s'=(xP s x (yF (zj s) (evL s ids)).2.1).2))
theorem InvY.sized {k:Nat} {b:Int} {n:Nat} {s:Sy} (h:InvY k b n s) (hk:k<=400):xj s.ps:=
 ⟨by rw[h.pslen];exact Nat.le_refl _,fun j hj=>by have:=h.psat j (by rw[<- h.pslen];exact hj);omega⟩
theorem InvY.dom {k:Nat} {b:Int} {n:Nat} {s:Sy} (h:InvY k b n s) (hk:k<=400):gn s:=fun x hx=>by
 obtain⟨t,xs,ht,-⟩:=h.some_ hx;have:=h.idle ht;exact⟨by omega,t,ht,(h.task x t ht).id⟩
theorem xO.tick {N:Int} {acc:List xS} (h:xO acc) (g:Int) (hg:0<=g/\g<16):xO (tkA N acc g):=by
 refine⟨(cY N acc g).trans h.1,fun i hi=>?_⟩;unfold tkA;rw[yP _ _ _ _ (by rw[h.1];omega)];split
 · rename_i e;have:=h.2 g.toNat (by omega);revert this
   generalize(acc.getD g.toNat default).1=q;generalize(acc.getD g.toNat default).2.1=p;generalize(acc.getD g.toNat default).2.2.1=l;generalize(acc.getD g.toNat default).2.2.2=f;intro this;unfold zJ;by_cases hh:yb q p l f/\0<N
   · rw[if_pos hh];right
     obtain⟨⟨a1,a2,a3,a4,a5,a6,a7,a8⟩,-⟩:=hh;have hm:=Int.emod_nonneg (f+N%p) (show p≠0 by omega);have rM:=Int.emod_lt_of_pos (f+N%p) (show 0<p by omega);split
     · exact⟨a1,a2,a3,a4,by simp only;omega,by simp only;omega,hm,rM⟩
     · exact⟨a1,a2,a3,a4,a5,a6,hm,rM⟩
   · rw[if_neg hh];exact this
 · exact h.2 i hi
theorem xO.ticks {N:Int}:∀(ids:List Int) (acc:List xS),xO acc->(∀g∈ids,0<=g/\g<16)->xO (ids.foldl (tkA N) acc)
 | [],acc,h,_=>h
 | g::ids,acc,h,hg=>xO.ticks ids _ (h.tick g (hg g List.mem_cons_self)) (fun x hx=>hg x (List.mem_cons_of_mem _ hx))
theorem xO.uses:∀(xs:List G16) (acc:List xS),xO acc->xO (xs.foldl xp acc)
 | [],acc,h=>h
 | x::xs,acc,h=>xO.uses xs _ (h.use x)
theorem bH:∀(ids:List Int) (s:Sy),(ids.foldl yI s).gs=s.gs
 | [],s=>rfl
 | id::ids,s=>(bH ids _).trans (kq s id).2.1
section
variable {k n:Nat} {b:Int} {s:Sy} {sb:Nat} {cbs:List Nat} {own:Nat->Option Own} {W:World}
theorem Vu (h:∃gb nb pb mb n cv D tb,SysAt W sb gb nb pb mb n cv D cbs tb own s) (hI:InvY k b n s) (hk:k<=400) (w m g:Int) (hm:0<=m/\m<65536) :
 InvY (k+1) b n (xh s w m g).2.2/\(xh s w m g).2.2.gs=s.gs /\
 Calls Tryz.prog 47 #[.pointer (some ⟨sb,0,none⟩),I w,.int .u16 m,I g] W fun e w'=>e=.returned (.tuple #[I (xh s w m g).1,I (xh s w m g).2.1])/\YQ sb cbs own (xh s w m g).2.2 W w':=by
 have rN:InvY (k+1) b n s:=hI.mono (Nat.le_succ k) (Int.le_refl b);unfold xh;by_cases hw:zQ w=false
 · rw[if_pos hw];exact⟨rN,rfl,Vo sb cbs own s w m g W h hw⟩
 · rw[if_neg hw];have nj:zQ w=true:=by simpa using hw
   by_cases hg:ye m s.cores.length=false
   · rw[if_pos hg];exact⟨rN,rfl,YY sb cbs own s w m g W h nj hm hg⟩
   · rw[if_neg hg];have ic:ye m s.cores.length=true:=by simpa using hg
     by_cases hh:zL s.gs g=false
     · rw[if_pos hh];exact⟨rN,rfl,Z0 sb cbs own s w m g W h nj hm ic hh⟩
     · rw[if_neg hh];have rp:zL s.gs g=true:=by simpa using hh
       obtain⟨xs,hx,Es⟩:=hI.gs.path g;have P8:xs≠[]:=fun e=>by
        subst e;replace hx:zL s.gs g=false:=hx;rw[rp] at hx;cases hx
       by_cases ht:(ym s.ps).2.1=0
       · rw[if_pos ht];have Dl:1<=w/\w<=20:=by
          unfold zQ at nj;simp only[Bool.and_eq_true,decide_eq_true_eq] at nj;exact nj
         obtain⟨p1,p2,p3⟩:=hI.spawn hk ht Dl ⟨hm,by rw[<- hI.len];exact ic⟩ rp;have A0:ym s.ps=((ym s.ps).1,0,(ym s.ps).2.2):=by rw[<- ht]
         exact⟨p3,rfl,cR sb cbs own s w m g _ _ W h nj hm ic xs hx P8 (by omega) (hI.sized hk) A0 (by omega) p2 (by have:=hI.cnt;omega)⟩
       · rw[if_neg ht];exact⟨rN,rfl,YX sb cbs own s w m g W h nj hm ic xs hx P8 (by omega) (hI.sized hk) ht⟩
theorem K9 (h:∃gb nb pb mb n cv D tb,SysAt W sb gb nb pb mb n cv D cbs tb own s) (hI:InvY k b n s) (hk:k<=300) (hb:b<=900000000000000000) (z:Int) :
 Calls Tryz.prog 55 #[.pointer (some ⟨sb,0,none⟩),I z] W fun e w'=>∃x y s',e=.returned (.tuple #[I x,I y])/\XD s z x y s'/\YQ sb cbs own s' W w'/\InvY (k+1) (b+10000000000000) n s'/\s'.gs=s.gs:=by
 obtain⟨gb,nb,pb,mb,nn,cv,D,tb,hS⟩:=h;have hn:=hS.num;have hl:=hI.len;by_cases hz:z<0\/(s.cores.length:Int)<=z
 · exact(YR sb gb nb pb mb nn cv D cbs tb own s z W hS (by rw[hn];exact hz)).mono (fun e w' ⟨he,hY⟩=>⟨0,2,s,he,.inl ⟨hz,rfl,rfl,rfl⟩,hY.q,hI.mono (Nat.le_succ k) (by omega),rfl⟩)
 · obtain⟨i,rfl⟩:=Int.eq_ofNat_of_zero_le (show 0<=z by omega);have hi:i<n:=by omega
   have sW:=hI.line i hi;have ov:=hI.fitsY (by omega) (by omega) i (by omega);have AM:=hI.srv i hi;obtain⟨c',t7,hc⟩:=hI.run1 (by omega) (by omega) hi;rcases hc with hc | ⟨id,t,hc,ht,h2,h3⟩
   · have mG:s.tasks (-1)=none:=by
      by_cases e:s.tasks (-1)=none
      · exact e
      · obtain⟨t,ht⟩:=Option.ne_none_iff_exists'.1 e;have:=hI.idle ht;omega
     exact(Qn sb gb nb pb mb nn cv D cbs tb own s i c' W hS (by omega) ov sW.nn (by omega) hc mG).mono (fun e w' ⟨he,hY⟩=>⟨-1,0,_,he,.inr ⟨i,rfl,by omega,rfl,c',.inl ⟨rfl,hc,rfl⟩⟩,hY.q,t7.mono (Nat.le_refl _) (by omega),rfl⟩)
   · obtain⟨xs,hx,-⟩:=hI.gs.path t.group;have hA:InvY (k+1) (b+(k+1:Nat)*232792560) n (zU (zN s i c') (xs.foldl xp s.acc)):=t7.accs (xO.uses xs _ hI.acc);have rJ:=kS (k+1) (by omega);have eY:∀ids:List Int,ids.Perm (zf s.ps)->jt (zU (zN s i c') (xs.foldl xp s.acc)) ids/\InvY (k+1) (b+10000000000000) n (ids.foldl yI (zU (zN s i c') (xs.foldl xp s.acc))):=fun ids hp=>by
      obtain⟨q1,q2⟩:=hI.perm hp;have hm:(ids.length:Int)*(((k+1:Nat):Int)*232792560)<=64*100000000000:=Int.mul_le_mul (by omega) rJ.1 rJ.2 (by omega);obtain⟨r1,r2⟩:=InvY.holds (by omega) ids _ _ hA (by omega) q2;exact⟨r1,r2.mono (Nat.le_refl _) (by omega)⟩
     have DW:=hI.idle ht;refine(Qo sb gb nb pb mb nn cv D cbs tb own s i id c' t xs W hS (by omega) ov sW.nn (by omega) hc (by omega) ht hx hI.acc (hI.sized (by omega)) (hI.dom (by omega)) (fun ids hp=>(eY ids hp).1)).mono ?_;rintro e w' ⟨he,ids,hp,Cr,hY⟩;exact⟨id,0,_,he,.inr ⟨i,rfl,by omega,rfl,c',.inr ⟨t,xs,ids,hc,ht,hx,hp,Cr,rfl⟩⟩,hY.q,(eY ids hp).2,bH _ _⟩
theorem Q5 (h:∃gb nb pb mb n cv D tb,SysAt W sb gb nb pb mb n cv D cbs tb own s) (hI:InvY k b n s) (hk:k<=300) (hb:b<=900000000000000000) (N:Int) (hN:N<=9223372036854775807) :
 Calls Tryz.prog 56 #[.pointer (some ⟨sb,0,none⟩),I N] W fun e w'=>∃y s',e=.returned (I y)/\Xo s N y s'/\YQ sb cbs own s' W w'/\InvY k (b+10000000000000) n s'/\s'.gs=s.gs:=by
 by_cases h0:N<0
 · obtain⟨gb,nb,pb,mb,nn,cv,D,tb,hS⟩:=h;exact(QE sb N W h0).mono (fun e w' ⟨he,hw⟩=>⟨1,s,he,.inl ⟨h0,rfl,rfl⟩,hw ▸ YQ.below hS (Below.refl _ _),hI.mono (Nat.le_refl _) (by omega),rfl⟩)
 · have aM:∀g∈yU s.gs 16,0<=g/\g<16:=fun g hg=>by
    have:=qx (k:=16) hg;omega
   have eZ:=KD sb cbs own s N W h;unfold Xo;generalize yU s.gs 16=gl at aM eZ⊢;have hA:InvY k b n (zU s (gl.foldl (tkA N) s.acc)):=hI.accs (xO.ticks gl s.acc hI.acc aM);have rJ:=kS k (by omega);have eY:∀ids:List Int,ids.Perm (zf s.ps)->gN (zU s (gl.foldl (tkA N) s.acc)) ids/\InvY k (b+10000000000000) n (ids.foldl yJ (zU s (gl.foldl (tkA N) s.acc)))/\(ids.foldl yJ (zU s (gl.foldl (tkA N) s.acc))).gs=s.gs:=fun ids hp=>by
    obtain⟨q1,q2⟩:=hI.perm hp;have hm:(ids.length:Int)*((k:Int)*232792560)<=64*100000000000:=Int.mul_le_mul (by omega) rJ.1 rJ.2 (by omega);obtain⟨r1,r2,r3⟩:=InvY.ticks (by omega) ids _ _ hA (by omega) q2;exact⟨r1,r2.mono (Nat.le_refl _) (by omega),r3⟩
   refine(eZ ⟨by omega,hN⟩ hI.acc.1 (hI.sized (by omega)) (hI.dom (by omega)) (fun ids hp=>(eY ids hp).1)).mono ?_;rintro e w' ⟨he,ids,hp,Cr,hY⟩;exact⟨0,_,he,.inr ⟨by omega,rfl,ids,hp,Cr,rfl⟩,hY,(eY ids hp).2.1,(eY ids hp).2.2⟩
theorem dM {xs:List Int} {l:List Lt} {fr:Int}:∀k,(yT xs l fr k).2.2=true->∃j:Nat,j<k/\(yT xs l fr k).1=(j:Int)/\l[j]!.core=fr/\(zD xs (xF l[j]!.mask l[j]!.core.toNat)).2=true/\(yT xs l fr k).2.1=(zD xs (xF l[j]!.mask l[j]!.core.toNat)).1
 | 0,h=>by cases h
 | k+1,h=>by
  have ih:=dM (xs:=xs) (l:=l) (fr:=fr) k;show∃j:Nat,j<k+1/\(ug xs l fr (yT xs l fr k) k).1=_/\_/\_/\(ug xs l fr (yT xs l fr k) k).2.1=_;replace h:(ug xs l fr (yT xs l fr k) k).2.2=true:=h;unfold ug at h⊢;by_cases hc:l[k]!.core=fr/\(zD xs (xF l[k]!.mask l[k]!.core.toNat)).2=true/\xs.getD (zD xs (xF l[k]!.mask l[k]!.core.toNat)).1.toNat 0+l[k]!.w<xs.getD fr.toNat 0/\((yT xs l fr k).2.2=false\/l[(yT xs l fr k).1.toNat]!.w<l[k]!.w)
  · rw[if_pos hc];exact⟨k,Nat.lt_succ_self k,rfl,hc.1,hc.2.1,rfl⟩
  · rw[if_neg hc] at h⊢;obtain⟨j,hj,r⟩:=ih h;exact⟨j,by omega,r⟩
theorem bP (hI:InvY k b n s) (hk:k<=400) {ids:List Int} (hp:ids.Perm (zf s.ps)) (h:(yF (zj s) (evL s ids)).2.2=true) :
 ∃t i j,s.tasks (yF (zj s) (evL s ids)).1=some t/\t.state=2/\t.core=((i:Nat):Int)/\i<n/\(yF (zj s) (evL s ids)).2.1=((j:Nat):Int)/\j<n/\j≠i/\zW t.mask (j:Int)=true:=by
 unfold yF at h⊢;by_cases hc:(yT (zj s) (evL s ids) (xm (zj s)) (evL s ids).length).2.2=true
 · rw[if_pos hc];obtain⟨j,hj,e1,e2,e3,e4⟩:=dM _ hc;simp only
   rw[e1,e4,Int.toNat_natCast];obtain⟨x,t,hx,ht,h2,e5⟩:=cA hj;have hT:=hI.task x t ht;obtain⟨i,hi,aN,-⟩:=hI.at_ ht h2;obtain⟨d,hd,TL,pD⟩:=bK e3;have tI:(zj s).length=n:=by simp[zj,hI.len]
   have h8:=hI.n8;rw[e5] at hd pD e3⊢;simp only at hd pD e3⊢;rw[hi,Int.toNat_natCast] at hd pD;have hm:=hT.mask.1;obtain⟨a,ha⟩:=Int.eq_ofNat_of_zero_le hm.1;rw[ha] at hd pD;obtain⟨m',LO,ah,eX⟩:=XU a (by omega) i (by omega);rw[LO] at pD;rw[vF m' ah d (by omega),eX d (by omega)] at pD;simp only[Bool.and_eq_true,decide_eq_true_eq] at pD;refine⟨t,i,d,by rw[hT.id];exact ht,h2,hi,aN,?_,by omega,pD.2,?_⟩
   · rw[hi,Int.toNat_natCast,ha];exact hd
   · rw[ha,vF a (by omega) d (by omega)];exact pD.1
 · rw[if_neg hc] at h;cases h
theorem Q3 (h:∃gb nb pb mb n cv D tb,SysAt W sb gb nb pb mb n cv D cbs tb own s) (hI:InvY k b n s) (hk:k<=400) (hb:b<=1000000000000000000) :
 Calls Tryz.prog 57 #[.pointer (some ⟨sb,0,none⟩)] W fun e w'=>∃x ok s',e=.returned (.tuple #[I x,.bool ok])/\VE s x ok s'/\YQ sb cbs own s' W w'/\InvY k (b+k*232792560+k*232792560) n s'/\s'.gs=s.gs:=by
 have h':=h;obtain⟨gb,nb,pb,mb,nn,cv,D,tb,hS⟩:=h;have hn:=hS.num;have hl:=hI.len;have h8:=hI.n8;have ov:=hI.fitsY hk hb;have rJ:=kS k hk;have mo:∀ids:List Int,ids.Perm (zf s.ps)->(yF (zj s) (evL s ids)).2.2=true->(∀W',SysAt W' sb gb nb pb mb nn cv D cbs tb own s->Calls Tryz.prog 54 #[.pointer (some ⟨sb,0,none⟩),I (yF (zj s) (evL s ids)).1,I (yF (zj s) (evL s ids)).2.1] W' fun e w'=>e=.returned (I 0)/\YP sb gb nb pb mb nn cv D cbs tb own (xP s (yF (zj s) (evL s ids)).1 (yF (zj s) (evL s ids)).2.1).2 W' w') /\
  InvY k (b+k*232792560+k*232792560) n (xP s (yF (zj s) (evL s ids)).1 (yF (zj s) (evL s ids)).2.1).2/\(xP s (yF (zj s) (evL s ids)).1 (yF (zj s) (evL s ids)).2.1).2.gs=s.gs:=fun ids hp hs=>by
  obtain⟨t,i,j,ht,h2,hi,aN,hj,mZ,pE,hm⟩:=bP hI hk hp hs;rw[hj];generalize(yF (zj s) (evL s ids)).1=id at ht⊢;have hT:=hI.task id t ht;have DW:=hI.idle ht;obtain⟨a,c⟩:=hI.moveG hk ht h2 hi aN mZ t.mask hT.mask hm;have T9:zI t t.mask=t:=rfl;rw[T9,k8 ht] at a c;have S9:xP s id (j:Int)=(0,je s id t i j):=by
   unfold xP;rw[ht];simp only
   rw[if_neg,if_neg (by omega),Int.toNat_natCast,show t.core.toNat=i from by omega];rintro(e | e | e)
   · unfold onT at e;rw[h2] at e;exact absurd e (by decide)
   · rw[hm] at e;cases e
   · rw[hi] at e;exact pE (by omega)
  rw[S9];exact⟨fun W' tq=>cL sb gb nb pb mb nn cv D cbs tb own s id t i j W' tq (by omega) (by omega) ht hT.mask.1 h2 hm hi pE (by omega) (by omega) ov a,c,xG.1⟩
 refine(Uk sb gb nb pb mb nn cv D cbs tb own s W hS (hI.sized hk) (hI.dom hk) ov (by omega) (by omega) (fun i hi=>?_) (fun x t ht h2=>?_) (fun ids=>(xP s (yF (zj s) (evL s ids)).1 (yF (zj s) (evL s ids)).2.1).2) (fun ids hp hs=>(mo ids hp hs).1)).mono ?_
 · have nh:i<s.cores.length:=by omega
   have e:(zj s).getD i 0=vn (zw s.cores[i]!.l):=by
    unfold zj;rw[List.getD_eq_getElem?_getD,List.getElem?_map,List.getElem?_eq_getElem nh,getElem!_pos s.cores i nh];rfl
   have hf:=ov i nh;have:=gI (zw s.cores[i]!.l) (zw s.cores[i]!.l).length (gF _ hf);rw[List.take_length] at this;have ag:(zw s.cores[i]!.l).length<=64:=by simp only[zw,List.length_map];exact hf.1
   rw[e];omega
 · have hT:=hI.task x t ht;obtain⟨i,hi,aN,-⟩:=hI.at_ ht h2;exact⟨⟨hT.w.1,hT.w.2,by omega,by omega⟩,hT.mask.1⟩
 · rintro e w' ⟨ids,hp,Cr,hc⟩;rcases hc with⟨he,hf,hY⟩ | ⟨he,hf,hY⟩
   · exact⟨0,false,s,he,⟨ids,hp,Cr,.inl ⟨rfl,hf,rfl⟩⟩,hY.q,hI.mono (Nat.le_refl _) (by omega),rfl⟩
   · exact⟨_,true,_,he,⟨ids,hp,Cr,.inr ⟨rfl,hf,rfl,rfl⟩⟩,hY.q,(mo ids hp hf).2.1,(mo ids hp hf).2.2⟩
end
section
attribute [local go_sem] Oper.semAt_some
def QQ (k:Nat) (L:Int->Option Tr):Prop:=∀c t,L c=some t->(0<=t.stg/\t.stg<=6)/\(t.stg≠6->∃mm:Nat,mm<=k/\t.base=1000*mm)
theorem QQ.mono {k k':Nat} {L:Int->Option Tr} (h:QQ k L) (hk:k<=k'):QQ k' L:=fun c t hc=>⟨(h c t hc).1,fun h6=>by
 obtain⟨mm,h1,h2⟩:=(h c t hc).2 h6;exact⟨mm,by omega,h2⟩⟩
section
variable {W:World} {wb sb m k n:Nat} {b:Int} {s:Sy} {cbs:List Nat} {L:Int->Option Tr} {own:Nat->Option Own} {ow:Nat->Option OwnW}
end
end
def gM (s:Sy) (op a b c n m x y:Int) (s':Sy):Prop:=
 (op=1/\∃xs:List G16,zq s.gs a xs/\x=(xk s a n m xs.length).1/\y=(xk s a n m xs.length).2.1/\s'=(xk s a n m xs.length).2.2) \/
 (op=2/\x=(xh s a (IntKind.u16.wrap b) c).1/\y=(xh s a (IntKind.u16.wrap b) c).2.1/\s'=(xh s a (IntKind.u16.wrap b) c).2.2) \/
 (op=3/\x=0/\y=(wk s a).1/\s'=(wk s a).2) \/
 (op=4/\x=0/\y=(ui s a).1/\s'=(ui s a).2) \/
 (op=5/\x=0/\y=(qS s a).1/\s'=(qS s a).2) \/
 (op=6/\x=0/\y=(fX s a).1/\s'=(fX s a).2) \/
 (op=7/\x=0/\y=(uj s a b).1/\s'=(uj s a b).2) \/
 (op=8/\x=0/\y=(qM s a (IntKind.u16.wrap b)).1/\s'=(qM s a (IntKind.u16.wrap b)).2) \/
 (op=9/\x=0/\y=(xP s a b).1/\s'=(xP s a b).2) \/
 (op=10/\XD s a x y s') \/
 (op=11/\x=0/\Xo s n y s') \/
 (op=12/\y=0/\∃x0 ok,VE s x0 ok s'/\x=(if ok=true then x0 else -1)) \/
 ((op<1\/12<op)/\x=0/\y=1/\s'=s)
def GsR (s:Sy) (op a y:Int) (s':Sy):Prop:=
 (op=1/\y=0->∃j:Nat,j<16/\zL s.gs j=false/\s'.gs=s.gs.set j (true,a))/\(¬(op=1/\y=0)->s'.gs=s.gs)
theorem GsR.same {s s':Sy} {op a y:Int} (h:s'.gs=s.gs) (ho:op≠1):GsR s op a y s':=⟨fun hh=>absurd hh.1 ho,fun _=>h⟩
structure WInv (k:Nat) (W:World) (ob wb sb:Nat) (s:Sy) (m:Nat) (cbs:List Nat) (L:Int->Option Tr) (own:Nat->Option Own) (ow:Nat->Option OwnW) (n:Nat):Prop where
 wo:kK W ob wb sb s m cbs L own ow
 inv:InvY k (1000000+k*10000000000000) n s
 m:m<=k
 tr:QQ k L
theorem fW (W:World) (ob wb sb:Nat) (s:Sy) (mm:Nat) (cbs:List Nat) (L:Int->Option Tr) (own:Nat->Option Own) (ow:Nat->Option OwnW) (op a b c n m:Int) (bl:Value) (P:Int->Int->Sy->Prop) (h:kK W ob wb sb s mm cbs L own ow) (nN:¬(13<=op/\op<=16))
 (Dh:∀(R:Int->Int->World->Prop),(∀x y s' w1,P x y s'->YQ sb cbs own s' (cq W op a b c n m bl) w1->R x y w1) ->
   Calls Tryz.prog 28 #[.pointer (some ⟨ob,0,none⟩),yo op a b c n m bl] (ud W op a b c n m bl) (Two R)) :
 Calls Tryz.prog 13 #[.pointer (some ⟨ob,0,none⟩),yo op a b c n m bl] W (fun e w'=>∃x y s',P x y s'/\DoQ ob wb sb s' mm cbs L own ow x y W e w'):=by
 obtain⟨h1,h2,h3,h4,h5,h6⟩:=qW W op a b c n m bl;have ah:∀k,own k≠none->k<W.heap.size:=by
  obtain⟨_,⟨⟨gb,nb,pb,mb,n,cv,D,tb,hS⟩,_⟩,_⟩:=h;exact hS.lt
 refine(XT W ob op a b c n m bl (fun x' y' w1=>∃s',P x' y' s'/\YQ sb cbs own s' (cq W op a b c n m bl) w1) nN (Dh _ (fun x y s' w1 hP hY=>⟨⟨s',hP,hY⟩,?_⟩))).mono ?_
 · obtain⟨own',_,_,eP⟩:=hY;rw[eP.block _ h2 (fun e=>by have:=ah _ e;omega),h5 _ (by omega),h4]
 · rintro e w' ⟨x',y',w1,⟨s',hP,hY⟩,rfl,hT⟩;exact⟨x',y',s',hP,rfl,KX h h1 hY hT h2⟩
theorem YQ.drewn {sb:Nat} {cbs:List Nat} {own:Nat->Option Own} {s':Sy} {W w':World} (h:YQ sb cbs own s' W w'):YQ sb cbs own s' W.drew w':=by
 obtain⟨own',h1,h2,h3⟩:=h;exact⟨own',h1,h2,⟨h3.os,h3.tape,h3.output,h3.size,h3.block⟩⟩
def Jn (k:Nat) (ob wb sb:Nat) (s:Sy) (cbs:List Nat) (own:Nat->Option Own) (ow:Nat->Option OwnW) (n:Nat) (R:Int->Int->Sy->Prop) (W:World) (e:Ending) (w':World):Prop:=
 ∃(x y:Int) (s':Sy) (m':Nat) (L':Int->Option Tr) (own':Nat->Option Own) (ow':Nat->Option OwnW),e=.returned (.agg #[I (if y=0 then x else 0),I y])/\WInv (k+1) w' ob wb sb s' m' cbs L' own' ow' n/\R x y s' /\
  Touch (fun k=>own k≠none\/ow k≠none) W w'/\∀k,(own' k≠none\/ow' k≠none)->(own k≠none\/ow k≠none)\/W.heap.size<=k
theorem kB (k:Nat):(1000000:Int)+((k+1:Nat):Int)*10000000000000=1000000+(k:Int)*10000000000000+10000000000000:=by omega
theorem Ui (k:Nat) (W:World) (ob wb sb:Nat) (s:Sy) (mm:Nat) (cbs:List Nat) (L:Int->Option Tr) (own:Nat->Option Own) (ow:Nat->Option OwnW) (nn:Nat) (op a b c n m:Int) (bl:Value) (h:WInv k W ob wb sb s mm cbs L own ow nn) (hk:k<=200) (nN:¬(13<=op/\op<=16))
 (h1:-9223372036854775808<=a) (h2:a<=9223372036854775807) (hn:n<=9223372036854775807) :
 Calls Tryz.prog 13 #[.pointer (some ⟨ob,0,none⟩),yo op a b c n m bl] W (Jn k ob wb sb s cbs own ow nn (fun x y s'=>gM s op a b c n m x y s'/\GsR s op a y s') W):=by
 obtain⟨nA,hI,hm,hL⟩:=h;obtain⟨hS,c0,c1⟩:=nA.act op a b c n m bl;have rJ:=kS k (by omega);have TT:=kB k;have B5:0<=IntKind.u16.wrap b/\IntKind.u16.wrap b<65536:=by rw[IntKind.wrap_u16];omega
 have Gu:(1000000:Int)+(k:Int)*10000000000000<=900000000000000000:=by omega
 refine(fW W ob wb sb s mm cbs L own ow op a b c n m bl (fun x y s'=>InvY (k+1) (1000000+((k+1:Nat):Int)*10000000000000) nn s'/\gM s op a b c n m x y s'/\GsR s op a y s') nA nN (fun R hR=>?_)).mono ?_
 · have oU:op=1\/op=2\/op=3\/op=4\/op=5\/op=6\/op=7\/op=8\/op=9\/op=10\/op=11\/op=12\/(op<1\/12<op):=by omega
   rcases oU with rfl | rfl | rfl | rfl | rfl | rfl | rfl | rfl | rfl | rfl | rfl | rfl | IW
   · obtain⟨xs,hx,Es⟩:=hI.gs.path a;obtain⟨g1,g2,g3⟩:=hI.group (q:=n) (p:=m) hx;refine cT _ ob sb _ a b c n m bl R c0 c1 ((Wj sb cbs own s a n m xs _ hS hx (by omega) hI.acc.1 hI.gs.len).mono ?_);rintro e w' ⟨he,hY⟩;refine⟨_,_,he,hR _ _ _ w' ⟨g1.mono (by omega) (by omega),.inl ⟨rfl,xs,hx,rfl,rfl,rfl⟩,fun hh=>g3 hh.2,fun hh=>?_⟩ hY,hY.keepA nA⟩;rw[g2 (fun e=>hh ⟨rfl,e⟩)]
   · obtain⟨g1,g2,g3⟩:=Vu (k:=k) (n:=nn) (b:=1000000+(k:Int)*10000000000000) hS hI (by omega) a (IntKind.u16.wrap b) c B5;refine cV _ ob sb _ a b c n m bl R c0 c1 (g3.mono ?_);rintro e w' ⟨he,hY⟩;exact⟨_,_,he,hR _ _ _ w' ⟨g1.mono (by omega) (by omega),.inr (.inl ⟨rfl,rfl,rfl,rfl⟩),GsR.same g2 (by decide)⟩ hY,hY.keepA nA⟩
   · obtain⟨g1,g2,g3⟩:=Vv hS hI (by omega) (by omega) a h1 h2;refine(cW _ ob sb _ a b c n m bl (fun y w'=>R 0 y w') c0 c1 (g3.mono ?_)).mono (fun e w' ⟨x,y,he,hx,hr⟩=>⟨x,y,he,by rw[hx];exact hr⟩);rintro e w' ⟨he,hY⟩;exact⟨_,he,hR _ _ _ w' ⟨g1.mono (by omega) (by omega),.inr (.inr (.inl ⟨rfl,rfl,rfl,rfl⟩)),GsR.same g2 (by decide)⟩ hY,hY.keepA nA⟩
   · obtain⟨g1,g2,g3⟩:=Vt hS hI (by omega) (by omega) a h1 h2;refine(cU _ ob sb _ a b c n m bl (fun y w'=>R 0 y w') c0 c1 (g3.mono ?_)).mono (fun e w' ⟨x,y,he,hx,hr⟩=>⟨x,y,he,by rw[hx];exact hr⟩);rintro e w' ⟨he,hY⟩;exact⟨_,he,hR _ _ _ w' ⟨g1.mono (by omega) (by omega),.inr (.inr (.inr (.inl ⟨rfl,rfl,rfl,rfl⟩))),GsR.same g2 (by decide)⟩ hY,hY.keepA nA⟩
   · obtain⟨g1,g2,g3⟩:=Q6 hS hI (by omega) (by omega) a h1 h2;refine(Z9 _ ob sb _ a b c n m bl (fun y w'=>R 0 y w') c0 c1 (g3.mono ?_)).mono (fun e w' ⟨x,y,he,hx,hr⟩=>⟨x,y,he,by rw[hx];exact hr⟩);rintro e w' ⟨he,hY⟩;exact⟨_,he,hR _ _ _ w' ⟨g1.mono (by omega) (by omega),.inr (.inr (.inr (.inr (.inl ⟨rfl,rfl,rfl,rfl⟩)))),GsR.same g2 (by decide)⟩ hY,hY.keepA nA⟩
   · obtain⟨g1,g2,g3⟩:=K8 hS hI (by omega) (by omega) a h1 h2;refine(Xd _ ob sb _ a b c n m bl (fun y w'=>R 0 y w') c0 c1 (g3.mono ?_)).mono (fun e w' ⟨x,y,he,hx,hr⟩=>⟨x,y,he,by rw[hx];exact hr⟩);rintro e w' ⟨he,hY⟩;exact⟨_,he,hR _ _ _ w' ⟨g1.mono (by omega) (by omega),.inr (.inr (.inr (.inr (.inr (.inl ⟨rfl,rfl,rfl,rfl⟩))))),GsR.same g2 (by decide)⟩ hY,hY.keepA nA⟩
   · obtain⟨g1,g2,g3⟩:=Vw hS hI (by omega) (by omega) a b h1 h2;refine(cX _ ob sb _ a b c n m bl (fun y w'=>R 0 y w') c0 c1 (g3.mono ?_)).mono (fun e w' ⟨x,y,he,hx,hr⟩=>⟨x,y,he,by rw[hx];exact hr⟩);rintro e w' ⟨he,hY⟩;exact⟨_,he,hR _ _ _ w' ⟨g1.mono (by omega) (by omega),.inr (.inr (.inr (.inr (.inr (.inr (.inl ⟨rfl,rfl,rfl,rfl⟩)))))),GsR.same g2 (by decide)⟩ hY,hY.keepA nA⟩
   · obtain⟨g1,g2,g3⟩:=Q2 hS hI (by omega) (by omega) a (IntKind.u16.wrap b) h1 h2 B5;refine(Z4 _ ob sb _ a b c n m bl (fun y w'=>R 0 y w') c0 c1 (g3.mono ?_)).mono (fun e w' ⟨x,y,he,hx,hr⟩=>⟨x,y,he,by rw[hx];exact hr⟩);rintro e w' ⟨he,hY⟩;exact⟨_,he,hR _ _ _ w' ⟨g1.mono (by omega) (by omega),.inr (.inr (.inr (.inr (.inr (.inr (.inr (.inl ⟨rfl,rfl,rfl,rfl⟩))))))),GsR.same g2 (by decide)⟩ hY,hY.keepA nA⟩
   · obtain⟨g1,g2,g3⟩:=Q4 hS hI (by omega) (by omega) a b h1 h2;refine(Z7 _ ob sb _ a b c n m bl (fun y w'=>R 0 y w') c0 c1 (g3.mono ?_)).mono (fun e w' ⟨x,y,he,hx,hr⟩=>⟨x,y,he,by rw[hx];exact hr⟩);rintro e w' ⟨he,hY⟩;exact⟨_,he,hR _ _ _ w' ⟨g1.mono (by omega) (by omega),.inr (.inr (.inr (.inr (.inr (.inr (.inr (.inr (.inl ⟨rfl,rfl,rfl,rfl⟩)))))))),GsR.same g2 (by decide)⟩ hY,hY.keepA nA⟩
   · refine Xe _ ob sb _ a b c n m bl R c0 c1 ((K9 hS hI (by omega) Gu a).mono ?_);rintro e w' ⟨x,y,s',he,hr,hY,t7,hg⟩;exact⟨_,_,he,hR _ _ s' w' ⟨t7.mono (by omega) (by omega),.inr (.inr (.inr (.inr (.inr (.inr (.inr (.inr (.inr (.inl ⟨rfl,hr⟩))))))))),GsR.same hg (by decide)⟩ hY,hY.keepA nA⟩
   · refine(Z8 _ ob sb _ a b c n m bl (fun y w'=>R 0 y w') c0 c1 ((Q5 hS hI (by omega) Gu n hn).mono ?_)).mono (fun e w' ⟨x,y,he,hx,hr⟩=>⟨x,y,he,by rw[hx];exact hr⟩);rintro e w' ⟨y,s',he,hr,hY,t7,hg⟩;exact⟨_,he,hR _ _ s' w' ⟨t7.mono (by omega) (by omega),.inr (.inr (.inr (.inr (.inr (.inr (.inr (.inr (.inr (.inr (.inl ⟨rfl,rfl,hr⟩)))))))))),GsR.same hg (by decide)⟩ hY,hY.keepA nA⟩
   · refine(Z6 _ ob sb _ a b c n m bl (fun x0 ok w'=>R (if ok=true then x0 else -1) 0 w') c0 c1 ?_).mono (fun e w' ⟨x,y,he,hy,x0,ok,hx,hr⟩=>⟨x,y,he,by rw[hy,hx];exact hr⟩);obtain⟨gb,nb,pb,mb,nq,cv,D,tb,tq⟩:=hS;have iA:SysAt ((ud W 12 a b c n m bl).alloc (.cells #[I 12,I a,I b,I c,I n,I m,bl] 35)) sb gb nb pb mb nq cv D cbs tb own s:=tq.same (Nat.le_refl _) (fun _ _=>rfl);refine(Q3 (k:=k) (n:=nn) (b:=1000000+(k:Int)*10000000000000) ⟨gb,nb,pb,mb,nq,cv,D,tb,iA⟩ hI (by omega) (by omega)).mono ?_;rintro e w' ⟨x,ok,s',he,hr,hY,t7,hg⟩;exact⟨x,ok,he,hR _ _ s' w' ⟨t7.mono (by omega) (by omega),.inr (.inr (.inr (.inr (.inr (.inr (.inr (.inr (.inr (.inr (.inr (.inl ⟨rfl,rfl,x,ok,hr,rfl⟩))))))))))),GsR.same hg (by decide)⟩ hY.drewn⟩
   · refine Z5 _ ob sb _ op a b c n m bl R IW c0 c1 ?_;obtain⟨gb,nb,pb,mb,nq,cv,D,tb,tq⟩:=hS;refine hR _ _ s _ ⟨hI.mono (by omega) (by omega),.inr (.inr (.inr (.inr (.inr (.inr (.inr (.inr (.inr (.inr (.inr (.inr ⟨IW,rfl,rfl,rfl⟩))))))))))),GsR.same rfl (by omega)⟩ ⟨own,⟨gb,nb,pb,mb,nq,cv,D,tb,tq.same (Nat.le_refl _) (fun _ _=>rfl)⟩,fun k hk=>.inl hk,⟨rfl,rfl,rfl,Nat.le_refl _,fun _ _ _=>rfl⟩⟩
 · rintro e w' ⟨x,y,s',⟨t7,hr,hg⟩,he,own',Oo,eP,oX⟩;refine⟨x,y,s',mm,L,own',ow,he,⟨Oo,t7,by omega,hL.mono (Nat.le_succ k)⟩,⟨hr,hg⟩,eP.wider (fun k hk=>.inl hk),fun k hk=>?_⟩;rcases hk with hk | hk
   · exact(oX k hk).imp .inl id
   · exact .inl (.inr hk)
section
attribute [local go_sem] Oper.semAt_some
def dn (W:World) (v:Value) (n:Nat):Prop:=
 ∃p c,v=.slice p n c/\∀j,j<n->∃g o,p=some ⟨g,o,none⟩/\g<W.heap.size/\∃x0 x1 x2 x3:Int,W.cell? ⟨g,o+j*4,none⟩=some (I x0)/\W.cell? ⟨g,o+j*4+1,none⟩=some (I x1) /\
  W.cell? ⟨g,o+j*4+2,none⟩=some (I x2)/\W.cell? ⟨g,o+j*4+3,none⟩=some (.int .u8 x3)
def Jl (W:World) (g o:Nat) (op a b c n m:Int) (bl:Value) (nb:Nat):Prop:=
 (W.cell? ⟨g,o,none⟩=some (I op)/\W.cell? ⟨g,o+1,none⟩=some (I a)/\W.cell? ⟨g,o+2,none⟩=some (I b)/\W.cell? ⟨g,o+3,none⟩=some (I c) /\
   W.cell? ⟨g,o+4,none⟩=some (I n)/\W.cell? ⟨g,o+5,none⟩=some (I m)/\W.cell? ⟨g,o+6,none⟩=some bl) /\
 ((-9223372036854775808<=a/\a<=9223372036854775807)/\n<=9223372036854775807)/\dn W bl nb
def uR (W:World) (p:Option Addr) (len:Nat):Prop:=
 ∀j,j<len->∃g o,p=some ⟨g,o,none⟩/\g<W.heap.size/\∃(op a b c n m:Int) (bl:Value) (nb:Nat),Jl W g (o+j*7) op a b c n m bl nb
def VF (W:World) (p:Option Addr) (len:Nat):Prop:=
 ∀j,j<len->∀g o,p=some ⟨g,o,none⟩->∀q nb c,W.cell? ⟨g,o+j*7+6,none⟩=some (.slice q nb c)->nb<=8
theorem dn.below {W W':World} {v:Value} {n:Nat} (h:dn W v n) (hb:Below W.heap.size W W'):dn W' v n:=by
 obtain⟨p,c,hv,hj⟩:=h;refine⟨p,c,hv,fun j mZ=>?_⟩;obtain⟨g,o,hp,g1,x0,x1,x2,x3,k0,k1,k2,k3⟩:=hj j mZ;have hg:=hb.block g g1;exact⟨g,o,hp,Nat.lt_of_lt_of_le g1 hb.size,x0,x1,x2,x3,(World.cell?_of_block (a:=⟨g,o+j*4,none⟩) hg).trans k0,(World.cell?_of_block (a:=⟨g,o+j*4+1,none⟩) hg).trans k1,(World.cell?_of_block (a:=⟨g,o+j*4+2,none⟩) hg).trans k2,(World.cell?_of_block (a:=⟨g,o+j*4+3,none⟩) hg).trans k3⟩
theorem uR.below {W W':World} {p:Option Addr} {len:Nat} (h:uR W p len) (hb:Below W.heap.size W W'):uR W' p len:=fun j hj=>by
 obtain⟨g,o,hp,g1,op,a,b,c',n,m,bl,nb,⟨k0,k1,k2,k3,k4,k5,k6⟩,i8,i9⟩:=h j hj;have hc:∀i,W'.cell? ⟨g,i,none⟩=W.cell? ⟨g,i,none⟩:=fun i=>World.cell?_of_block (a:=⟨g,i,none⟩) (hb.block g g1);exact⟨g,o,hp,Nat.lt_of_lt_of_le g1 hb.size,op,a,b,c',n,m,bl,nb,⟨(hc _).trans k0,(hc _).trans k1,(hc _).trans k2,(hc _).trans k3,(hc _).trans k4,(hc _).trans k5,(hc _).trans k6⟩,i8,i9.below hb⟩
def JB (W:World) (tn:Nat) (p:Option Addr) (len:Nat) (e:Ending) (w':World):Prop:=
 ∃f:Bool,e=.returned (.bool f)/\W=w'/\(f=false->tn<=8/\len<=150/\VF W p len)
theorem Kb (W:World) (tp:Option Addr) (tn tc:Nat) (p:Option Addr) (len c:Nat) (h:uR W p len) :
 Calls Tryz.prog 10 #[.slice tp tn tc,.slice p len c] W (JB W tn p len):=by
 have H:=lH h;clear h;by_cases h8:8<tn
 · have Sl:(8:Int)<(tn:Int):=by omega
   go_enter Tryz.func10,Tryz.ntmps10;go_wp2_with fail
   go_ret
   exact⟨true,rfl,rfl,fun h=>by cases h⟩
 · have Sl:¬(8:Int)<(tn:Int):=by omega
   by_cases CH:150<len
   · have He:(150:Int)<(len:Int):=by omega
     go_enter Tryz.func10,Tryz.ntmps10;go_wp2_with fail
     go_ret
     exact⟨true,rfl,rfl,fun h=>by cases h⟩
   · have He:¬(150:Int)<(len:Int):=by omega
     have HG:Hid (tn<=8/\len<=150):=lH (by omega);clear h8 CH;go_enter Tryz.func10,Tryz.ntmps10;go_wp2_with fail
     go_loop [5] (fun x=>∃j:Nat,j<=len/\x=I j/\Hid (VF W p j)) (fun x=>len-(intOf x).toNat)
     case atStart=>exact⟨0,Nat.zero_le _,rfl,lH (fun j hj=>absurd hj (Nat.not_lt_zero _))⟩
     case round=>
      obtain⟨j,hj,rfl,HF⟩:=hrel;by_cases mZ:j<len
      · obtain⟨g,o,rfl,Gx,op,a,b,c',n,m,bl,nb,⟨k0,k1,k2,k3,k4,k5,k6⟩,i8,q,qc,rfl,hq⟩:=H.out j mZ;have DX:(j:Int)<(len:Int):=by omega
        have oh:0<=(j:Int):=by omega
        have ag:=HG.out.2;by_cases Ta:8<nb
        · have NN:(8:Int)<(nb:Int):=by omega
          clear hq i8;go_wp2_with fail
          go_ret
          exact⟨true,rfl,rfl,fun h=>by cases h⟩
        · have NN:¬(8:Int)<(nb:Int):=by omega
          have Dq:Hid (VF W (some ⟨g,o,none⟩) (j+1)):=lH (fun i hi g' o' hp q' nb' c'' hc=>by
           by_cases e:i<j
           · exact HF.out i e g' o' hp q' nb' c'' hc
           · obtain rfl:i=j:=by omega
             simp only[Option.some.injEq,Addr.mk.injEq] at hp;obtain⟨rfl,rfl,-⟩:=hp;rw[k6] at hc;simp only[Option.some.injEq,Value.slice.injEq] at hc;omega)
          clear hq i8;go_wp2_with fail
          go_round
          case rel=>exact⟨j+1,by omega,by go_num,Dq⟩
          case measure=>simp[intOf];omega
      · obtain rfl:j=len:=by omega
        go_wp2_with fail
        go_ret
        exact⟨false,rfl,rfl,fun _=>⟨HG.out.1,HG.out.2,HF.out⟩⟩
theorem qV.below {W W':World} {tp:Option Addr} {tn:Nat} {zs:List Int} (h:qV W tp tn zs) (hb:Below W.heap.size W W'):qV W' tp tn zs:=by
 rcases h with h | ⟨b,off,hp,i9,ap⟩
 · exact .inl h
 · exact .inr ⟨b,off,hp,Nat.lt_of_lt_of_le i9 hb.size,fun j hj=>(hb.cell (p:=⟨b,off+j,none⟩) i9).trans (ap j hj)⟩
def kI (W:World) (ob n k:Nat) (s:Sy) (wr:World):Prop:=
 ∃(wb sb m:Nat) (cbs:List Nat) (L:Int->Option Tr) (own:Nat->Option Own) (ow:Nat->Option OwnW),WInv k wr ob wb sb s m cbs L own ow n/\Below W.heap.size W wr/\∀j,(own j≠none\/ow j≠none)->W.heap.size<=j
theorem kI.bel {W wr:World} {ob n k:Nat} {s:Sy} (h:kI W ob n k s wr):Below W.heap.size W wr:=by
 obtain⟨wb,sb,m,cbs,L,own,ow,h1,h2,h3⟩:=h;exact h2
theorem kI.inv {W wr:World} {ob n k:Nat} {s:Sy} (h:kI W ob n k s wr):InvY k (1000000+k*10000000000000) n s:=by
 obtain⟨wb,sb,m,cbs,L,own,ow,h1,h2,h3⟩:=h;exact h1.inv
theorem bE (g:Int):zL vU g=decide (g=0):=by
 by_cases h:0<=g/\g<16
 · obtain⟨j,rfl⟩:=Int.eq_ofNat_of_zero_le h.1;have:j<16:=by omega
   obtain rfl | rfl | rfl | rfl | rfl | rfl | rfl | rfl | rfl | rfl | rfl | rfl | rfl | rfl | rfl | rfl:j=0\/j=1\/j=2\/j=3\/j=4\/j=5\/j=6\/j=7\/j=8\/j=9\/j=10\/j=11\/j=12\/j=13\/j=14\/j=15:=by omega
   all_goals rfl
 · unfold zL;by_cases h0:0<=g
   · have nd:¬g<16:=by omega
     simp[h0,nd]
     omega
   · simp[h0]
     omega
theorem Kl (tags:List Int) (h1:1<=tags.length) (h8:tags.length<=8):InvY 0 1000000 tags.length (xX tags):=by
 have hc:∀i,i<tags.length->(xX tags).cores[i]! = qe (tags.getD i 0):=fun i hi=>by
  show(tags.map qe)[i]! = _;rw[getElem!_pos _ i (by simpa using hi),List.getElem_map,List.getD_eq_getElem?_getD,List.getElem?_eq_getElem hi];rfl
 have iV:∀j,j<64->(yH 64).getD j default=(0,false):=fun j hj=>by
  unfold yH;rw[List.getD_eq_getElem?_getD,List.getElem?_replicate,if_pos hj];rfl
 have mG:∀x,x∉zf (yH 64):=fun x hx=>by
  obtain⟨j,hj,h2,_⟩:=xL.1 hx;rw[iV j (by simpa [yH] using hj)] at h2;cases h2
 refine⟨⟨h1,h8⟩,by simp[xX],fun i hi=>?_,fun i hi=>?_,⟨by simp[xX,vU],fun g=>?_,fun g hg=>?_⟩,⟨by simp[xX,we],fun i hi=>?_⟩,by simp[xX,yH],fun j hj=>?_,fun x=>?_,fun x t ht=>?_,fun i hi x w=>?_,Nat.le_refl _⟩
 · rw[hc i hi];exact⟨List.Pairwise.nil,(fun p hp=>by cases hp),(fun p hp=>by cases hp),(fun p hp=>by cases hp),by simp[qe],.inl rfl,.inl rfl⟩
 · rw[hc i hi];exact Nat.le_refl _
 · by_cases e:g=0
   · subst e;exact⟨[g0],ch,by simp⟩
   · exact⟨[],by show zL vU g=false;rw[bE];simp[e],by simp⟩
 · have ic:zL vU g=true:=hg;rw[bE] at ic;have:g=0:=of_decide_eq_true ic;subst this;left;rfl
 · left
   have:(xX tags).acc.getD i default=(0,0,0,0):=by
    show we.getD i default=_;unfold we;rw[List.getD_eq_getElem?_getD,List.getElem?_replicate,if_pos hi];rfl
   rw[this];exact⟨rfl,rfl,rfl,rfl⟩
 · show 0<=((yH 64).getD j default).1/\_;simp only[xX];rw[iV j hj];simp
 · exact⟨fun h=>absurd rfl h,fun h=>absurd h (mG x)⟩
 · cases ht
 · rw[hc i hi];exact⟨(fun⟨p,hp,_⟩=>by cases hp),(fun⟨t,ht,_⟩=>by cases ht)⟩
theorem bI (W:World) (b off tn tc:Nat) (zs:List Int) (h1:1<=tn) (h8:tn<=8) (i9:b<W.heap.size) (ap:∀j,j<tn->W.cell? ⟨b,off+j,none⟩=some (I ((xW zs tn).getD j 0)))
 (hg:∀k,k<tn->(xW zs tn).getD k 0=0\/(xW zs tn).getD k 0=1\/(xW zs tn).getD k 0=2) :
 Calls Tryz.prog 11 #[.slice (some ⟨b,off,none⟩) tn tc] W fun e w'=>∃ob,e=.returned (.tuple #[.pointer (some ⟨ob,0,none⟩),I 0])/\kI W ob tn 0 (xX (xW zs tn)) w'/\1<=tn:=by
 refine(KI W b off tn tc (xW zs tn) (wt _ _).symm (by omega) (by omega) ap i9 hg).mono ?_;rintro e w' ⟨ob,wb,sb,cbs,own,ow,he,nA,FJ,hb,aZ⟩;have pV:=Kl (xW zs tn) (by rw[wt];omega) (by rw[wt];omega);rw[wt] at pV;exact⟨ob,he,⟨wb,sb,0,cbs,gH,own,ow,⟨nA,by simpa using pV,Nat.le_refl _,fun c t hc=>by cases hc⟩,hb,aZ⟩,h1⟩
def VO (w':World) (a:Option Addr) (xs:List Value):Prop:=∀i v,xs[i]? = some v->∃g,a=some ⟨g,0,none⟩/\g<w'.heap.size/\w'.cell? ⟨g,i,none⟩=some v
def QM (H:Nat) (w':World) (a:Option Addr) (xs:List Value):Prop:=∀i v,xs[i]? = some v->∃g,a=some ⟨g,0,none⟩/\H<=g/\g<w'.heap.size/\w'.cell? ⟨g,i,none⟩=some v
theorem QM.f {H:Nat} {w':World} {a:Option Addr} {xs:List Value} (h:QM H w' a xs):VO w' a xs:=fun i v hv=>by
 obtain⟨g,h1,_,h2,h3⟩:=h i v hv;exact⟨g,h1,h2,h3⟩
theorem zH {W:World} {H:Nat} {t:TypeId} {sz n:Nat} {v:Value} {xs:List Value} (h:W.ownsRow H t sz v n xs):∃a c,v=.slice a n c/\QM H W a xs:=by
 rcases h.2 with⟨rfl,rfl⟩ | ⟨g,cap,cur,rfl,hb,hg,hn,hm,hs,ht⟩
 · refine⟨none,0,rfl,fun i v hv=>?_⟩;have:=h.1;simp at this;subst this;cases hv
 · refine⟨_,cap,rfl,fun i u hu=>⟨g,rfl,hb,(Array.getElem?_eq_some_iff.1 hg).1,?_⟩⟩;have hx:=h.cells (g:=g) rfl i u;simp only[Addr.add_lit,Nat.zero_add] at hx;exact hx hu
theorem VO.below {w w':World} {a:Option Addr} {xs:List Value} (h:VO w a xs) (hb:Below w.heap.size w w'):VO w' a xs:=fun i v hv=>by
 obtain⟨g,h1,h2,h3⟩:=h i v hv;exact⟨g,h1,Nat.lt_of_lt_of_le h2 hb.size,(hb.cell (p:=⟨g,i,none⟩) h2).trans h3⟩
theorem kI.tell {W wr:World} {ob n k:Nat} {s:Sy} (h:kI W ob n k s wr) (hk:k<=200):TellY s:=by
 have hI:=h.inv;refine⟨hI.sized (by omega),hI.dom (by omega),fun x t ht h2=>?_,hI.fitsY (by omega) (by omega),fun g hg=>?_,hI.acc.1⟩
 · obtain⟨i,hi,aN,-⟩:=hI.at_ ht h2;exact⟨i,hi,by rw[hI.len];exact aN⟩
 · obtain⟨xs,hx,h4⟩:=hI.gs.path g;exact⟨xs,hx,by omega⟩
theorem dE (W wr:World) (ob n k:Nat) (s:Sy) (h:kI W ob n k s wr) (hk:k<=200) :
 Calls Tryz.prog 15 #[.pointer (some ⟨ob,0,none⟩)] wr fun e w'=>∃(a0 a1 a2 a3 a4:Option Addr) (c0 c1 c2 c3 c4:Nat) (fl:List (Int×Value)) (P:Nat->Prop),
  e=.returned (.agg #[.slice a0 n c0,.slice a1 n c1,.slice a2 (zf s.ps).length c2,.slice a3 (xD s 16).length c3,.slice a4 (xD s 16).length c4])/\VO w' a1 (wK fl)/\yk w' P fl s.cores/\QM wr.heap.size w' a2 (zu ((zf s.ps).map (yD s)))/\Below wr.heap.size wr w':=by
 have hy:=h.tell hk;have hI:=h.inv;obtain⟨wb,sb,m,cbs,L,own,ow,⟨nA,_,_,_⟩,h2,h3⟩:=h;have ap:=nA.cells.1;obtain⟨-,⟨⟨gb,nb,pb,mb,n',cv,D,tb,hY⟩,-,-⟩,-,-⟩:=nA;have AI:=hY.num;have hl:=hI.len;have h8:=hI.n8;refine(Vr ob sb gb nb pb mb n' cv D cbs tb own s wr hY hy (by omega) ap).mono ?_;rintro e w' ⟨vs,rfl,hR,hb⟩;obtain⟨fl,P,CU,Nk,-⟩:=hR.forms;obtain⟨a0,c0,s0,r0⟩:=zH hR.tags;obtain⟨a1,c1,s1,r1⟩:=zH CU;obtain⟨a2,c2,s2,r2⟩:=zH hR.tasks;obtain⟨a3,c3,s3,r3⟩:=zH hR.lefts;obtain⟨a4,c4,s4,r4⟩:=zH hR.phases;rw[hl] at s0 s1;exact⟨a0,a1,a2,a3,a4,c0,c1,c2,c3,c4,fl,P,by rw[s0,s1,s2,s3,s4],r1.f,Nk,r2,hb⟩
theorem vz:∀(l:List Tk) (k f:Nat) (hk:k<l.length),f<7->(zu l)[k*7+f]? = l[k].cells[f]?
 | [],k,f,h,_=>by simp at h
 | a::l,0,f,_,hf=>by
  have e:zu (a::l)=a.cells++zu l:=by simp[zu]
  rw[e,List.getElem?_append_left (by simp[Tk.cells];omega)];simp
 | a::l,k+1,f,h,hf=>by
  have ih:=vz l k f (by simpa using h) hf;have e:zu (a::l)=a.cells++zu l:=by simp[zu]
  rw[e,List.getElem?_append_right (by simp[Tk.cells];omega)];have hl:a.cells.length=7:=by simp[Tk.cells]
  rw[hl,show(k+1)*7+f-7=k*7+f by omega,ih];rfl
end
section
variable {k n:Nat} {b:Int} {s:Sy}
theorem Q8 {x:Int} {t:Tk} (ht:s.tasks x=some t):yD s x=gm s t:=by
 unfold yD;rw[ht];rfl
end
theorem d7:∀(l:List (Int×Value)) (c:Nat) (hc:c<l.length),(wK l)[c*2]? = some (I l[c].1)/\(wK l)[c*2+1]? = some l[c].2
 | [],c,h=>by simp at h
 | f::l,0,_=>by simp[wK]
 | f::l,c+1,h=>by
  have ih:=d7 l c (by simpa using h);have e:wK (f::l)=[I f.1,f.2]++wK l:=by simp[wK]
  rw[e,List.getElem?_append_right (by simp;omega),List.getElem?_append_right (by simp;omega)];simp only[List.length_cons,List.length_nil];rw[show(c+1)*2-(0+1+1)=c*2 by omega,show(c+1)*2+1-(0+1+1)=c*2+1 by omega];exact ih
theorem bA {W:World} {P:Nat->Prop}:∀(fs:List (Int×Value)) (cs:List Co) (c:Nat),yk W P fs cs->(hc:c<cs.length)->∃hf:c<fs.length,fs[c].1=cs[c].l.cur/\FSl W fs[c].2 (zw cs[c].l)
 | [],[],c,h,hc=>by simp at hc
 | [],_::_,c,h,hc=>h.elim
 | _::_,[],c,h,hc=>by simp at hc
 | f::fs,d::cs,0,h,hc=>⟨by simp,h.1.1,h.1.2.1⟩
 | f::fs,d::cs,c+1,h,hc=>by
  obtain⟨hf,h1,h2⟩:=bA fs cs c h.2 (by simpa using hc);exact⟨by simpa using hf,by simpa using h1,by simpa using h2⟩
section
attribute [local go_sem] Oper.semAt_some
theorem Xi {k n:Nat} {b:Int} {s:Sy} (h:InvY k b n s) {T:Nat} (hT:(zf s.ps).length=T) (i:Nat) (hi:i<T) :
 ∃t:Tk,t=yD s ((zf s.ps).getD i 0)/\t.id=(zf s.ps).getD i 0/\(zf s.ps).getD i 0∈zf s.ps/\(zu ((zf s.ps).map (yD s)))[i*7]? = some (I t.id)/\(zu ((zf s.ps).map (yD s)))[i*7+1]? = some (I t.w) /\
  (zu ((zf s.ps).map (yD s)))[i*7+2]? = some (I t.group)/\(zu ((zf s.ps).map (yD s)))[i*7+3]? = some (I t.core)/\(zu ((zf s.ps).map (yD s)))[i*7+4]? = some (I t.state) /\
  (zu ((zf s.ps).map (yD s)))[i*7+5]? = some (.int .u16 t.mask)/\(zu ((zf s.ps).map (yD s)))[i*7+6]? = some (I t.lag):=by
 have nh:i<(zf s.ps).length:=by omega
 have e:(zf s.ps).getD i 0=(zf s.ps)[i]:=by rw[List.getD_eq_getElem?_getD,List.getElem?_eq_getElem nh];rfl
 have hg:=fun f hf=>vz ((zf s.ps).map (yD s)) i f (by simpa using nh) hf;simp only[List.getElem_map] at hg;refine⟨_,rfl,by rw[e];exact Q7 h (List.getElem_mem nh),by rw[e];exact List.getElem_mem nh,?_,?_,?_,?_,?_,?_,?_⟩
 · rw[e];exact hg 0 (by omega)
 · rw[e];exact hg 1 (by omega)
 · rw[e];exact hg 2 (by omega)
 · rw[e];exact hg 3 (by omega)
 · rw[e];exact hg 4 (by omega)
 · rw[e];exact hg 5 (by omega)
 · rw[e];exact hg 6 (by omega)
end
end Go.Proofs.YtoiajjobecinpaaGreat
